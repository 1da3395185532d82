/- What the reference's functions on sets of fields answer: is it in. -/
import Derived.Test.YtjbhknfdfnilbaaNgd
import Derived.Test.YtjbhknfdfnilbaaXgh
namespace Go.Proofs.Ytjbhknfdfnilbaa.Xe
open Go Go.RowKit Go.Proofs.Ytjbhknfdfnilbaa.Sp
set_option linter.unusedVariables false
set_option linter.unusedSimpArgs false
set_option maxRecDepth 100000
/-! ### groatref05_In -/
@[reducible] def groatref05_In.sg : List Shp := [.v (.sl (.int .i64)), .v (.int .i64)]
@[reducible] def groatref05_In.rs : Rs := .one (.v (.bool))
@[reducible] noncomputable def groatref05_In.code : Code := Try.f86.body.getD .skip
noncomputable def groatref05_In.C : Ctx := ⟨tab, [], [], ⟨[(2, [0, 1, 5], 0)], []⟩⟩
noncomputable def groatref05_In.l0 (n : Nat) (v0 : List Int) (v1 : Int) (v2 : Int) : Option Bool := run groatref05_In.C (finOf groatref05_In.C Try.f86 groatref05_In.rs) n (todoAt 2 groatref05_In.code) ⟨[.sl none (.int .i64) v0, .int .i64 v1, .junk, .junk, .junk, .int .i64 v2, .junk, .junk, .junk, .junk, .junk, .junk, .junk, .junk, .junk, .junk, .junk, .junk], [], []⟩
-- the loop at region 2
theorem groatref05_In.l0_eq (n : Nat) (v0 : List Int) (v1 : Int) (v2 : Int) : groatref05_In.l0 (n + 1) v0 v1 v2 =
  (if v2 < (↑(List.length v0) : Int) then ((lget v0 v2).bind fun b0 =>
   (if b0 = v1 then (some true)
   else (groatref05_In.l0 n v0 v1 (IntKind.wrap IntKind.i64 (v2 + 1)))))
  else (some false)) := by kernel_rfl
theorem groatref05_In.eq (n : Nat) (a0 : List Int) (a1 : Int) : call groatref05_In.C Try.f86 groatref05_In.code groatref05_In.sg groatref05_In.rs n (a0, a1) =
  (groatref05_In.l0 n a0 a1 0) := by kernel_rfl
def groatref05_In.f (x : List Int × Int) : Option Bool := if x.1.length ≤ 1000000 then some (decide (x.2 ∈ x.1)) else none
theorem groatref05_In (L : List Int) (hL : L.length ≤ 1000000) (n : Int) : groatref05_In.f (L, n) = some (decide (n ∈ L)) := if_pos hL
theorem groatref05_In_l (L : List Int) (hL : L.length ≤ 1000000) (n : Int) : ∀ (m : List Int) (k i : Nat), L.drop i = m → i + m.length = L.length → m.length < k → groatref05_In.l0 k L n (i : Int) = some (decide (n ∈ m))
  | [], k, i, hd, hi, hk => by
    obtain ⟨k, rfl⟩ : ∃ m, k = m + 1 := ⟨k - 1, by omega⟩
    have hi' : i = L.length := by simpa using hi
    rw [groatref05_In.l0_eq, if_neg (by omega)]; simp
  | a :: m, k, i, hd, hi, hk => by
    obtain ⟨k, rfl⟩ : ∃ m, k = m + 1 := ⟨k - 1, by omega⟩
    have hi' : i + (m.length + 1) = L.length := by simpa using hi
    have hk' : m.length < k := by simp at hk; omega
    have hlt : i < L.length := by omega
    have hd' := hd
    rw [List.drop_eq_getElem_cons hlt] at hd'
    obtain ⟨e1, e2⟩ := List.cons.inj hd'
    rw [groatref05_In.l0_eq, if_pos (by omega), lget_nat _ _ hlt, Option.bind_some, e1, wrap_succ (by omega), groatref05_In_l L hL n m k (i + 1) e2 (by omega) hk']
    by_cases h : a = n
    · rw [if_pos h]; simp [h]
    · rw [if_neg h]
      have : n ≠ a := fun e => h e.symm
      simp [this]
noncomputable def groatref05_In.c : Con := ⟨86, groatref05_In.sg, groatref05_In.rs, groatref05_In.f⟩
theorem groatref05_In.con : ConOk Try.prog groatref05_In.c := walked (C := groatref05_In.C) rfl (by kernel_rfl) (by kernel_rfl) (by kernel_rfl) rfl trivial fun ⟨L, n⟩ y h => by
  have h : groatref05_In.f (L, n) = some y := h
  unfold groatref05_In.f at h
  split at h
  · rename_i hc
    exact ⟨L.length + 1, by rw [groatref05_In.eq]; exact (groatref05_In_l L hc n L _ 0 rfl (by simp) (by omega)).trans h⟩
  · cases h
def isIn (L : List Int) (n : Nat) : Bool := decide ((n : Int) ∈ L)
end Go.Proofs.Ytjbhknfdfnilbaa.Xe
