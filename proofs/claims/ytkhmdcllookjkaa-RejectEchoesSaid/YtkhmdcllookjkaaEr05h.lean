/- What the reference's functions on sets of fields answer: halves. -/
import Derived.Test.YtkhmdcllookjkaaEr05i
namespace Go.Proofs.Ytkhmdcllookjkaa.Xe
open Go Go.RowKit Go.Proofs.Ytkhmdcllookjkaa.Sp
set_option linter.unusedVariables false
set_option linter.unusedSimpArgs false
set_option maxRecDepth 100000
theorem two_more {c m : Nat} (p : Nat → Bool) (i : Nat) (h : c < 64) : (if p (i + c) = true then IntKind.wrap .u64 (IntKind.wrap .u64 ((hor p i c : Int) * 2) + 1) else IntKind.wrap .u64 ((hor p i c : Int) * 2)) = ((hor p i (c + 1) : Nat) : Int) := by
  have h1 := hor_lt p i c
  have h2 : 2 ^ c ≤ 2 ^ 63 := Nat.pow_le_pow_right (by decide) (by omega)
  rw [show (2 : Nat) ^ 63 = 9223372036854775808 from rfl] at h2
  have w : IntKind.wrap .u64 ((hor p i c : Int) * 2) = ((hor p i c * 2 : Nat) : Int) := by rw [IntKind.wrap_u64]; omega
  rw [w, hor]
  by_cases hx : p (i + c) = true
  · rw [if_pos hx, hx, IntKind.wrap_u64, Bool.toNat_true]; omega
  · rw [if_neg hx, Bool.eq_false_iff.2 hx, Bool.toNat_false]; omega
/-! ### groatref05_Halves -/
@[reducible] def groatref05_Halves.sg : List Shp := [.v (.sl (.int .i64))]
@[reducible] def groatref05_Halves.rs : Rs := .tup [.v (.int .u64), .v (.int .u64)]
@[reducible] noncomputable def groatref05_Halves.code : Code := Try.f27.body.getD .skip
noncomputable def groatref05_Halves.C : Ctx := ⟨tab, [groatref05_In.c], [], ⟨[(4, [0, 4, 5, 6], 0)], []⟩⟩
noncomputable def groatref05_Halves.l0 (n : Nat) (v0 : List Int) (v1 : Int) (v2 : Int) (v3 : Int) : Option ((Int × Int)) := run groatref05_Halves.C (finOf groatref05_Halves.C Try.f27 groatref05_Halves.rs) n (todoAt 4 groatref05_Halves.code) ⟨[.sl none (.int .i64) v0, .junk, .junk, .junk, .int .u64 v1, .int .u64 v2, .int .i64 v3, .junk, .junk, .junk, .junk, .junk, .junk, .junk, .junk, .junk, .junk, .junk, .junk, .junk, .junk, .junk, .junk, .junk, .junk, .junk, .junk, .junk, .junk], [], []⟩
-- the loop at region 4
theorem groatref05_Halves.l0_eq (n : Nat) (v0 : List Int) (v1 : Int) (v2 : Int) (v3 : Int) : groatref05_Halves.l0 (n + 1) v0 v1 v2 v3 =
  (if v3 ≤ 128 then (if v3 ≤ 64 then ((groatref05_In.f (v0, v3)).bind fun b0 =>
    (if b0 = true then (groatref05_Halves.l0 n v0 (IntKind.wrap IntKind.u64 (IntKind.wrap IntKind.u64 (v1 * 2) + 1)) v2 (IntKind.wrap IntKind.i64 (v3 + 1)))
    else (groatref05_Halves.l0 n v0 (IntKind.wrap IntKind.u64 (v1 * 2)) v2 (IntKind.wrap IntKind.i64 (v3 + 1)))))
   else ((groatref05_In.f (v0, v3)).bind fun b1 =>
    (if b1 = true then (groatref05_Halves.l0 n v0 v1 (IntKind.wrap IntKind.u64 (IntKind.wrap IntKind.u64 (v2 * 2) + 1)) (IntKind.wrap IntKind.i64 (v3 + 1)))
    else (groatref05_Halves.l0 n v0 v1 (IntKind.wrap IntKind.u64 (v2 * 2)) (IntKind.wrap IntKind.i64 (v3 + 1))))))
  else (some ((v1, v2)))) := by kernel_rfl
theorem groatref05_Halves.eq (n : Nat) (a0 : List Int) : call groatref05_Halves.C Try.f27 groatref05_Halves.code groatref05_Halves.sg groatref05_Halves.rs n a0 =
  (groatref05_Halves.l0 n a0 0 0 1) := by kernel_rfl
def groatref05_Halves.f (L : List Int) : Option (Int × Int) := if L.length ≤ 1000000 then some ((hor (isIn L) 1 64 : Int), (hor (isIn L) 65 64 : Int)) else none
theorem groatref05_Halves (L : List Int) (hL : L.length ≤ 1000000) : groatref05_Halves.f L = some ((hor (isIn L) 1 64 : Int), (hor (isIn L) 65 64 : Int)) := if_pos hL
theorem groatref05_Halves_l2 (L : List Int) (hL : L.length ≤ 1000000) (v : Int) : ∀ (d k c : Nat), c + d = 64 → d < k →
    groatref05_Halves.l0 k L v (hor (isIn L) 65 c : Int) ((65 + c : Nat) : Int) = some (v, (hor (isIn L) 65 64 : Int))
  | 0, k, c, hc, hk => by
    obtain ⟨k, rfl⟩ : ∃ m, k = m + 1 := ⟨k - 1, by omega⟩
    obtain rfl : c = 64 := by omega
    rw [groatref05_Halves.l0_eq, if_neg (by decide)]
  | d + 1, k, c, hc, hk => by
    obtain ⟨k, rfl⟩ : ∃ m, k = m + 1 := ⟨k - 1, by omega⟩
    have ih := groatref05_Halves_l2 L hL v d k (c + 1) (by omega) (by omega)
    rw [← two_more (isIn L) 65 (by omega) (m := 0), ← Nat.add_assoc] at ih
    rw [groatref05_Halves.l0_eq, if_pos (by omega), if_neg (by omega), groatref05_In L hL, Option.bind_some, wrap_succ (by omega)]
    by_cases hx : isIn L (65 + c) = true
    · rw [if_pos hx] at ih
      rw [if_pos (show decide (((65 + c : Nat) : Int) ∈ L) = true from hx)]; exact ih
    · rw [if_neg hx] at ih
      rw [if_neg (show ¬ decide (((65 + c : Nat) : Int) ∈ L) = true from hx)]; exact ih
theorem groatref05_Halves_l1 (L : List Int) (hL : L.length ≤ 1000000) : ∀ (d k c : Nat), c + d = 64 → d + 64 < k →
    groatref05_Halves.l0 k L (hor (isIn L) 1 c : Int) 0 ((1 + c : Nat) : Int) = some ((hor (isIn L) 1 64 : Int), (hor (isIn L) 65 64 : Int))
  | 0, k, c, hc, hk => by
    obtain rfl : c = 64 := by omega
    exact groatref05_Halves_l2 L hL _ 64 k 0 (by omega) (by omega)
  | d + 1, k, c, hc, hk => by
    obtain ⟨k, rfl⟩ : ∃ m, k = m + 1 := ⟨k - 1, by omega⟩
    have ih := groatref05_Halves_l1 L hL d k (c + 1) (by omega) (by omega)
    rw [← two_more (isIn L) 1 (by omega) (m := 0), ← Nat.add_assoc] at ih
    rw [groatref05_Halves.l0_eq, if_pos (by omega), if_pos (by omega), groatref05_In L hL, Option.bind_some, wrap_succ (by omega)]
    by_cases hx : isIn L (1 + c) = true
    · rw [if_pos hx] at ih
      rw [if_pos (show decide (((1 + c : Nat) : Int) ∈ L) = true from hx)]; exact ih
    · rw [if_neg hx] at ih
      rw [if_neg (show ¬ decide (((1 + c : Nat) : Int) ∈ L) = true from hx)]; exact ih
noncomputable def groatref05_Halves.c : Con := ⟨27, groatref05_Halves.sg, groatref05_Halves.rs, groatref05_Halves.f⟩
theorem groatref05_Halves.con : ConOk Try.prog groatref05_Halves.c := walked (C := groatref05_Halves.C) rfl (by kernel_rfl) (by kernel_rfl) (by kernel_rfl) rfl ⟨groatref05_In.con, trivial⟩ fun L y h => by
  have h : groatref05_Halves.f L = some y := h
  unfold groatref05_Halves.f at h
  split at h
  · rename_i hc
    exact ⟨129, by rw [groatref05_Halves.eq]; exact (groatref05_Halves_l1 L hc 64 _ 0 (by omega) (by omega)).trans h⟩
  · cases h
end Go.Proofs.Ytkhmdcllookjkaa.Xe
