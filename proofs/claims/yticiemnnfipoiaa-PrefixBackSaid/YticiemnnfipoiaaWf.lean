/- The bounds of well-formed numbers. -/
import Derived.Test.YticiemnnfipoiaaBa
namespace Go.Proofs.Yticiemnnfipoiaa.Sp
open Go.RowKit Go.Proofs.YticiemnnfipoiaaW.PrintWords
set_option linter.unusedVariables false
set_option linter.unusedSimpArgs false
theorem wf_u8 {b : Int} (h : (Lit.int .u8 b).wf = true) : 0 ≤ b ∧ b ≤ 255 := by
  have e1 : IntKind.u8.min = 0 := rfl
  have e2 : IntKind.u8.max = 255 := rfl
  simp [Lit.wf] at h; omega
theorem wf_i64 {b : Int} (h : (Lit.int .i64 b).wf = true) : -9223372036854775808 ≤ b ∧ b ≤ 9223372036854775807 := by
  have e1 : IntKind.i64.min = -9223372036854775808 := rfl
  have e2 : IntKind.i64.max = 9223372036854775807 := rfl
  simp [Lit.wf] at h; omega
theorem wf_u64 {b : Int} (h : (Lit.int .u64 b).wf = true) : 0 ≤ b ∧ b ≤ 18446744073709551615 := by
  have e1 : IntKind.u64.min = 0 := rfl
  have e2 : IntKind.u64.max = 18446744073709551615 := rfl
  simp [Lit.wf] at h; omega
theorem ex_u8 {b : Int} (h : (Lit.int .u8 b).wf = true) : ∃ x : UInt8, b = (x.toNat : Int) := by
  have := wf_u8 h
  exact ⟨u8 b.toNat, by rw [u8_toNat _ (by omega)]; omega⟩
end Go.Proofs.Yticiemnnfipoiaa.Sp
