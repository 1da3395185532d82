/- What the reference's functions on sets of fields answer: halves. -/
import Derived.Test.YtjbhknfdfnilbaaEr05i
namespace Go.Proofs.Ytjbhknfdfnilbaa.Xe
open Go Go.RowKit Go.Proofs.Ytjbhknfdfnilbaa.Sp
set_option linter.unusedVariables false
set_option linter.unusedSimpArgs false
set_option maxRecDepth 100000
theorem two_more {c m : Nat} (p : Nat → Bool) (i : Nat) (h : c < 64) : (if p (i + c) = true then IntKind.wrap .u64 (IntKind.wrap .u64 ((hor p i c : Int) * 2) + 1) else IntKind.wrap .u64 ((hor p i c : Int) * 2)) = ((hor p i (c + 1) : Nat) : Int) := by
  have h1 := hor_lt p i c
  have h2 : 2 ^ c ≤ 2 ^ 63 := Nat.pow_le_pow_right (by decide) (by omega)
  rw [show (2 : Nat) ^ 63 = 9223372036854775808 from rfl] at h2
  have w : IntKind.wrap .u64 ((hor p i c : Int) * 2) = ((hor p i c * 2 : Nat) : Int) := by rw [IntKind.wrap_u64]; omega
  rw [w, hor]
  by_cases hx : p (i + c) = true
  · rw [if_pos hx, hx, IntKind.wrap_u64, Bool.toNat_true]; omega
  · rw [if_neg hx, Bool.eq_false_iff.2 hx, Bool.toNat_false]; omega
end Go.Proofs.Ytjbhknfdfnilbaa.Xe
