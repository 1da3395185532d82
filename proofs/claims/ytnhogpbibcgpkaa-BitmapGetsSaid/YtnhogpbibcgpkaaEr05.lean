/- What the reference's functions on sets of fields answer. -/
import Derived.Test.YtnhogpbibcgpkaaNBit
import Derived.Test.YtnhogpbibcgpkaaXy
namespace Go.Proofs.Ytnhogpbibcgpkaa.Xe
open Go Go.RowKit Go.Proofs.Ytnhogpbibcgpkaa.Sp
set_option linter.unusedVariables false
set_option linter.unusedSimpArgs false
set_option maxRecDepth 100000
/-! ### groatref05_In -/
@[reducible] def groatref05_In.sg : List Shp := [.v (.sl (.int .i64)), .v (.int .i64)]
@[reducible] def groatref05_In.rs : Rs := .one (.v (.bool))
@[reducible] noncomputable def groatref05_In.code : Code := Try.f22.body.getD .skip
noncomputable def groatref05_In.C : Ctx := ⟨tab, [], [], ⟨[(2, [0, 1, 5], 0)], []⟩⟩
noncomputable def groatref05_In.l0 (n : Nat) (v0 : List Int) (v1 : Int) (v2 : Int) : Option Bool := run groatref05_In.C (finOf groatref05_In.C Try.f22 groatref05_In.rs) n (todoAt 2 groatref05_In.code) ⟨[.sl none (.int .i64) v0, .int .i64 v1, .junk, .junk, .junk, .int .i64 v2, .junk, .junk, .junk, .junk, .junk, .junk, .junk, .junk, .junk, .junk, .junk, .junk], [], []⟩
-- the loop at region 2
theorem groatref05_In.l0_eq (n : Nat) (v0 : List Int) (v1 : Int) (v2 : Int) : groatref05_In.l0 (n + 1) v0 v1 v2 =
  (if v2 < (↑(List.length v0) : Int) then ((lget v0 v2).bind fun b0 =>
   (if b0 = v1 then (some true)
   else (groatref05_In.l0 n v0 v1 (IntKind.wrap IntKind.i64 (v2 + 1)))))
  else (some false)) := by kernel_rfl
theorem groatref05_In.eq (n : Nat) (a0 : List Int) (a1 : Int) : call groatref05_In.C Try.f22 groatref05_In.code groatref05_In.sg groatref05_In.rs n (a0, a1) =
  (groatref05_In.l0 n a0 a1 0) := by kernel_rfl
def groatref05_In.f (x : List Int × Int) : Option Bool := if x.1.length ≤ 1000000 then some (decide (x.2 ∈ x.1)) else none
theorem groatref05_In (L : List Int) (hL : L.length ≤ 1000000) (n : Int) : groatref05_In.f (L, n) = some (decide (n ∈ L)) := if_pos hL
theorem groatref05_In_l (L : List Int) (hL : L.length ≤ 1000000) (n : Int) : ∀ (m : List Int) (k i : Nat), L.drop i = m → i + m.length = L.length → m.length < k → groatref05_In.l0 k L n (i : Int) = some (decide (n ∈ m))
  | [], k, i, hd, hi, hk => by
    obtain ⟨k, rfl⟩ : ∃ m, k = m + 1 := ⟨k - 1, by omega⟩
    have hi' : i = L.length := by simpa using hi
    rw [groatref05_In.l0_eq, if_neg (by omega)]; simp
  | a :: m, k, i, hd, hi, hk => by
    obtain ⟨k, rfl⟩ : ∃ m, k = m + 1 := ⟨k - 1, by omega⟩
    have hi' : i + (m.length + 1) = L.length := by simpa using hi
    have hk' : m.length < k := by simp at hk; omega
    have hlt : i < L.length := by omega
    have hd' := hd
    rw [List.drop_eq_getElem_cons hlt] at hd'
    obtain ⟨e1, e2⟩ := List.cons.inj hd'
    rw [groatref05_In.l0_eq, if_pos (by omega), lget_nat _ _ hlt, Option.bind_some, e1, wrap_succ (by omega), groatref05_In_l L hL n m k (i + 1) e2 (by omega) hk']
    by_cases h : a = n
    · rw [if_pos h]; simp [h]
    · rw [if_neg h]
      have : n ≠ a := fun e => h e.symm
      simp [this]
noncomputable def groatref05_In.c : Con := ⟨22, groatref05_In.sg, groatref05_In.rs, groatref05_In.f⟩
theorem groatref05_In.con : ConOk Try.prog groatref05_In.c := walked (C := groatref05_In.C) rfl (by kernel_rfl) (by kernel_rfl) (by kernel_rfl) rfl trivial fun ⟨L, n⟩ y h => by
  have h : groatref05_In.f (L, n) = some y := h
  unfold groatref05_In.f at h
  split at h
  · rename_i hc
    exact ⟨L.length + 1, by rw [groatref05_In.eq]; exact (groatref05_In_l L hc n L _ 0 rfl (by simp) (by omega)).trans h⟩
  · cases h
/-! ### groatref05_Has -/
@[reducible] def groatref05_Has.sg : List Shp := [.v (.int .u64), .v (.int .u64), .v (.int .i64)]
@[reducible] def groatref05_Has.rs : Rs := .one (.v (.bool))
@[reducible] noncomputable def groatref05_Has.code : Code := Try.f24.body.getD .skip
noncomputable def groatref05_Has.C : Ctx := ⟨tab, [], [], ⟨[(9, [7, 8, 9], 0)], []⟩⟩
noncomputable def groatref05_Has.l0 (n : Nat) (v0 : Int) (v1 : Int) (v2 : Int) : Option Bool := run groatref05_Has.C (finOf groatref05_Has.C Try.f24 groatref05_Has.rs) n (todoAt 9 groatref05_Has.code) ⟨[.junk, .junk, .junk, .junk, .junk, .junk, .junk, .int .u64 v0, .int .i64 v1, .int .i64 v2, .junk, .junk, .junk, .junk, .junk, .junk, .junk, .junk, .junk, .junk, .junk, .junk, .junk, .junk, .junk, .junk, .junk, .junk, .junk, .junk, .junk, .junk, .junk, .junk], [], []⟩
-- the loop at region 9
theorem groatref05_Has.l0_eq (n : Nat) (v0 : Int) (v1 : Int) (v2 : Int) : groatref05_Has.l0 (n + 1) v0 v1 v2 =
  (if v2 < v1 then (groatref05_Has.l0 n (IntKind.wrap IntKind.u64 (Int.tdiv v0 2)) v1 (IntKind.wrap IntKind.i64 (v2 + 1)))
  else (some (decide (Int.tmod v0 2 = 1)))) := by kernel_rfl
theorem groatref05_Has.eq (n : Nat) (a0 : Int) (a1 : Int) (a2 : Int) : call groatref05_Has.C Try.f24 groatref05_Has.code groatref05_Has.sg groatref05_Has.rs n (a0, (a1, a2)) =
  (if a2 < 1 then (some false)
  else (if a2 > 128 then (some false)
   else (if a2 > 64 then (groatref05_Has.l0 n a1 (IntKind.wrap IntKind.i64 (128 - a2)) 0)
    else (groatref05_Has.l0 n a0 (IntKind.wrap IntKind.i64 (64 - a2)) 0)))) := by kernel_rfl
def groatref05_Has.f (x : Int × Int × Int) : Option Bool := if (0 ≤ x.1 ∧ x.1 < 18446744073709551616) ∧ (0 ≤ x.2.1 ∧ x.2.1 < 18446744073709551616) then some (fhas x.1.toNat x.2.1.toNat x.2.2) else none
theorem groatref05_Has (h l : Nat) (hh : h < 18446744073709551616) (hl : l < 18446744073709551616) (n : Int) : groatref05_Has.f ((h : Int), (l : Int), n) = some (fhas h l n) := by
  unfold groatref05_Has.f; rw [if_pos (by dsimp only; omega)]; rfl
theorem groatref05_Has_l (c : Nat) (hc : c < 64) : ∀ (d k i v : Nat), i + d = c → d < k → v < 18446744073709551616 → groatref05_Has.l0 k (v : Int) (c : Int) (i : Int) = some (v.testBit d)
  | 0, k, i, v, hi, hk, hv => by
    obtain ⟨k, rfl⟩ : ∃ m, k = m + 1 := ⟨k - 1, by omega⟩
    have t : Int.tmod (v : Int) 2 = ((v % 2 : Nat) : Int) := tmod_nat v 2
    rw [groatref05_Has.l0_eq, if_neg (by omega), t, Nat.testBit_zero]
    congr 1
    exact decide_eq_decide.2 (by omega)
  | d + 1, k, i, v, hi, hk, hv => by
    obtain ⟨k, rfl⟩ : ∃ m, k = m + 1 := ⟨k - 1, by omega⟩
    have t : Int.tdiv (v : Int) 2 = ((v / 2 : Nat) : Int) := tdiv_nat v 2
    have w : IntKind.wrap .u64 ((v / 2 : Nat) : Int) = ((v / 2 : Nat) : Int) := by rw [IntKind.wrap_u64]; omega
    rw [groatref05_Has.l0_eq, if_pos (by omega), t, w, wrap_succ (by omega), groatref05_Has_l c hc d k (i + 1) (v / 2) (by omega) (by omega) (by omega), Nat.testBit_succ]
theorem groatref05_Has.run (h l : Nat) (hh : h < 18446744073709551616) (hl : l < 18446744073709551616) (n : Int) : call groatref05_Has.C Try.f24 groatref05_Has.code groatref05_Has.sg groatref05_Has.rs 65 ((h : Int), (l : Int), n) = some (fhas h l n) := by
  rw [groatref05_Has.eq, fhas]
  by_cases h1 : n < 1
  · rw [if_pos h1, if_pos (.inl h1)]
  rw [if_neg h1]
  by_cases h2 : n > 128
  · rw [if_pos h2, if_pos (.inr h2)]
  rw [if_neg h2, if_neg (show ¬ (n < 1 ∨ 128 < n) by omega)]
  by_cases h3 : n ≤ 64
  · obtain ⟨c, hc'⟩ := Int.eq_ofNat_of_zero_le (show 0 ≤ 64 - n by omega)
    rw [if_neg (by omega), if_pos h3, wrap_id (by omega) (by omega), hc', Int.toNat_natCast]
    exact groatref05_Has_l c (by omega) c _ 0 h (by omega) (by omega) (by omega)
  · obtain ⟨c, hc'⟩ := Int.eq_ofNat_of_zero_le (show 0 ≤ 128 - n by omega)
    rw [if_pos (by omega), if_neg h3, wrap_id (by omega) (by omega), hc', Int.toNat_natCast]
    exact groatref05_Has_l c (by omega) c _ 0 l (by omega) (by omega) (by omega)
noncomputable def groatref05_Has.c : Con := ⟨24, groatref05_Has.sg, groatref05_Has.rs, groatref05_Has.f⟩
theorem groatref05_Has.con : ConOk Try.prog groatref05_Has.c := walked (C := groatref05_Has.C) rfl (by kernel_rfl) (by kernel_rfl) (by kernel_rfl) rfl trivial fun ⟨h, l, n⟩ y hy => by
  have hy : groatref05_Has.f (h, l, n) = some y := hy
  unfold groatref05_Has.f at hy
  split at hy
  · rename_i hc
    dsimp only at hc hy
    obtain ⟨h, rfl⟩ := Int.eq_ofNat_of_zero_le hc.1.1
    obtain ⟨l, rfl⟩ := Int.eq_ofNat_of_zero_le hc.2.1
    exact ⟨65, (groatref05_Has.run h l (by omega) (by omega) n).trans hy⟩
  · cases hy
/-- The numbers of the fields in a set. -/
def flst (h l : Nat) : List Int := lst (fun n => fhas h l (n : Int)) 1 128
/-! ### groatref05_List -/
@[reducible] def groatref05_List.sg : List Shp := [.v (.int .u64), .v (.int .u64)]
@[reducible] def groatref05_List.rs : Rs := .one (.v (.sl (.int .i64)))
@[reducible] noncomputable def groatref05_List.code : Code := Try.f11.body.getD .skip
noncomputable def groatref05_List.C : Ctx := ⟨tab, [groatref05_Has.c], [], ⟨[(3, [0, 1, 5, 6], 0)], []⟩⟩
noncomputable def groatref05_List.l0 (n : Nat) (v0 : Int) (v1 : Int) (v2 : List Int) (v3 : Int) : Option (List Int) := run groatref05_List.C (finOf groatref05_List.C Try.f11 groatref05_List.rs) n (todoAt 3 groatref05_List.code) ⟨[.int .u64 v0, .int .u64 v1, .junk, .junk, .junk, .sl (some 0) (.int .i64) v2, .int .i64 v3, .junk, .junk, .junk, .junk, .junk, .junk, .junk, .junk, .junk, .junk, .junk, .junk, .junk, .junk], [], [true]⟩
-- the loop at region 3
theorem groatref05_List.l0_eq (n : Nat) (v0 : Int) (v1 : Int) (v2 : List Int) (v3 : Int) : groatref05_List.l0 (n + 1) v0 v1 v2 v3 =
  (if v3 ≤ 128 then ((groatref05_Has.f (v0, v1, v3)).bind fun b0 =>
   (if b0 = true then ((lcat 8 v2 [v3]).bind fun b1 =>
    (groatref05_List.l0 n v0 v1 b1 (IntKind.wrap IntKind.i64 (v3 + 1))))
   else (groatref05_List.l0 n v0 v1 v2 (IntKind.wrap IntKind.i64 (v3 + 1)))))
  else (some v2)) := by kernel_rfl
theorem groatref05_List.eq (n : Nat) (a0 : Int) (a1 : Int) : call groatref05_List.C Try.f11 groatref05_List.code groatref05_List.sg groatref05_List.rs n (a0, a1) =
  (groatref05_List.l0 n a0 a1 [] 1) := by kernel_rfl
def groatref05_List.f (x : Int × Int) : Option (List Int) := if (0 ≤ x.1 ∧ x.1 < 18446744073709551616) ∧ (0 ≤ x.2 ∧ x.2 < 18446744073709551616) then some (flst x.1.toNat x.2.toNat) else none
theorem groatref05_List (h l : Nat) (hh : h < 18446744073709551616) (hl : l < 18446744073709551616) : groatref05_List.f ((h : Int), (l : Int)) = some (flst h l) := by
  unfold groatref05_List.f; rw [if_pos (by dsimp only; omega)]; rfl
theorem groatref05_List_l (h l : Nat) (hh : h < 18446744073709551616) (hl : l < 18446744073709551616) : ∀ (d k c : Nat), c + d = 128 → d < k →
    groatref05_List.l0 k (h : Int) (l : Int) (lst (fun n => fhas h l (n : Int)) 1 c) ((1 + c : Nat) : Int) = some (flst h l)
  | 0, k, c, hc, hk => by
    obtain ⟨k, rfl⟩ : ∃ m, k = m + 1 := ⟨k - 1, by omega⟩
    obtain rfl : c = 128 := by omega
    rw [groatref05_List.l0_eq, if_neg (by decide)]; rfl
  | d + 1, k, c, hc, hk => by
    obtain ⟨k, rfl⟩ : ∃ m, k = m + 1 := ⟨k - 1, by omega⟩
    have ih := groatref05_List_l h l hh hl d k (c + 1) (by omega) (by omega)
    rw [lst_snoc, ← Nat.add_assoc] at ih
    rw [groatref05_List.l0_eq, if_pos (by omega), groatref05_Has h l hh hl, Option.bind_some, wrap_succ (by omega)]
    by_cases hx : fhas h l ((1 + c : Nat) : Int) = true
    · rw [if_pos hx] at ih ⊢
      have hlen := lst_length (fun n => fhas h l (n : Int)) 1 c
      rw [lcat_ok _ _ _ (by simp only [List.length_cons, List.length_nil]; omega), Option.bind_some]
      exact ih
    · rw [if_neg hx] at ih ⊢
      rw [List.append_nil] at ih
      exact ih
noncomputable def groatref05_List.c : Con := ⟨11, groatref05_List.sg, groatref05_List.rs, groatref05_List.f⟩
theorem groatref05_List.con : ConOk Try.prog groatref05_List.c := walked (C := groatref05_List.C) rfl (by kernel_rfl) (by kernel_rfl) (by kernel_rfl) rfl ⟨groatref05_Has.con, trivial⟩ fun ⟨h, l⟩ y hy => by
  have hy : groatref05_List.f (h, l) = some y := hy
  unfold groatref05_List.f at hy
  split at hy
  · rename_i hc
    dsimp only at hc hy
    obtain ⟨h, rfl⟩ := Int.eq_ofNat_of_zero_le hc.1.1
    obtain ⟨l, rfl⟩ := Int.eq_ofNat_of_zero_le hc.2.1
    refine ⟨129, ?_⟩
    rw [groatref05_List.eq, ← hy]
    exact groatref05_List_l h l (by omega) (by omega) 128 _ 0 (by omega) (by omega)
  · cases hy
def isIn (L : List Int) (n : Nat) : Bool := decide ((n : Int) ∈ L)
theorem two_more {c m : Nat} (p : Nat → Bool) (i : Nat) (h : c < 64) : (if p (i + c) = true then IntKind.wrap .u64 (IntKind.wrap .u64 ((hor p i c : Int) * 2) + 1) else IntKind.wrap .u64 ((hor p i c : Int) * 2)) = ((hor p i (c + 1) : Nat) : Int) := by
  have h1 := hor_lt p i c
  have h2 : 2 ^ c ≤ 2 ^ 63 := Nat.pow_le_pow_right (by decide) (by omega)
  rw [show (2 : Nat) ^ 63 = 9223372036854775808 from rfl] at h2
  have w : IntKind.wrap .u64 ((hor p i c : Int) * 2) = ((hor p i c * 2 : Nat) : Int) := by rw [IntKind.wrap_u64]; omega
  rw [w, hor]
  by_cases hx : p (i + c) = true
  · rw [if_pos hx, hx, IntKind.wrap_u64, Bool.toNat_true]; omega
  · rw [if_neg hx, Bool.eq_false_iff.2 hx, Bool.toNat_false]; omega
/-! ### groatref05_Halves -/
@[reducible] def groatref05_Halves.sg : List Shp := [.v (.sl (.int .i64))]
@[reducible] def groatref05_Halves.rs : Rs := .tup [.v (.int .u64), .v (.int .u64)]
@[reducible] noncomputable def groatref05_Halves.code : Code := Try.f15.body.getD .skip
noncomputable def groatref05_Halves.C : Ctx := ⟨tab, [groatref05_In.c], [], ⟨[(4, [0, 4, 5, 6], 0)], []⟩⟩
noncomputable def groatref05_Halves.l0 (n : Nat) (v0 : List Int) (v1 : Int) (v2 : Int) (v3 : Int) : Option ((Int × Int)) := run groatref05_Halves.C (finOf groatref05_Halves.C Try.f15 groatref05_Halves.rs) n (todoAt 4 groatref05_Halves.code) ⟨[.sl none (.int .i64) v0, .junk, .junk, .junk, .int .u64 v1, .int .u64 v2, .int .i64 v3, .junk, .junk, .junk, .junk, .junk, .junk, .junk, .junk, .junk, .junk, .junk, .junk, .junk, .junk, .junk, .junk, .junk, .junk, .junk, .junk, .junk, .junk], [], []⟩
-- the loop at region 4
theorem groatref05_Halves.l0_eq (n : Nat) (v0 : List Int) (v1 : Int) (v2 : Int) (v3 : Int) : groatref05_Halves.l0 (n + 1) v0 v1 v2 v3 =
  (if v3 ≤ 128 then (if v3 ≤ 64 then ((groatref05_In.f (v0, v3)).bind fun b0 =>
    (if b0 = true then (groatref05_Halves.l0 n v0 (IntKind.wrap IntKind.u64 (IntKind.wrap IntKind.u64 (v1 * 2) + 1)) v2 (IntKind.wrap IntKind.i64 (v3 + 1)))
    else (groatref05_Halves.l0 n v0 (IntKind.wrap IntKind.u64 (v1 * 2)) v2 (IntKind.wrap IntKind.i64 (v3 + 1)))))
   else ((groatref05_In.f (v0, v3)).bind fun b1 =>
    (if b1 = true then (groatref05_Halves.l0 n v0 v1 (IntKind.wrap IntKind.u64 (IntKind.wrap IntKind.u64 (v2 * 2) + 1)) (IntKind.wrap IntKind.i64 (v3 + 1)))
    else (groatref05_Halves.l0 n v0 v1 (IntKind.wrap IntKind.u64 (v2 * 2)) (IntKind.wrap IntKind.i64 (v3 + 1))))))
  else (some ((v1, v2)))) := by kernel_rfl
theorem groatref05_Halves.eq (n : Nat) (a0 : List Int) : call groatref05_Halves.C Try.f15 groatref05_Halves.code groatref05_Halves.sg groatref05_Halves.rs n a0 =
  (groatref05_Halves.l0 n a0 0 0 1) := by kernel_rfl
def groatref05_Halves.f (L : List Int) : Option (Int × Int) := if L.length ≤ 1000000 then some ((hor (isIn L) 1 64 : Int), (hor (isIn L) 65 64 : Int)) else none
theorem groatref05_Halves (L : List Int) (hL : L.length ≤ 1000000) : groatref05_Halves.f L = some ((hor (isIn L) 1 64 : Int), (hor (isIn L) 65 64 : Int)) := if_pos hL
theorem groatref05_Halves_l2 (L : List Int) (hL : L.length ≤ 1000000) (v : Int) : ∀ (d k c : Nat), c + d = 64 → d < k →
    groatref05_Halves.l0 k L v (hor (isIn L) 65 c : Int) ((65 + c : Nat) : Int) = some (v, (hor (isIn L) 65 64 : Int))
  | 0, k, c, hc, hk => by
    obtain ⟨k, rfl⟩ : ∃ m, k = m + 1 := ⟨k - 1, by omega⟩
    obtain rfl : c = 64 := by omega
    rw [groatref05_Halves.l0_eq, if_neg (by decide)]
  | d + 1, k, c, hc, hk => by
    obtain ⟨k, rfl⟩ : ∃ m, k = m + 1 := ⟨k - 1, by omega⟩
    have ih := groatref05_Halves_l2 L hL v d k (c + 1) (by omega) (by omega)
    rw [← two_more (isIn L) 65 (by omega) (m := 0), ← Nat.add_assoc] at ih
    rw [groatref05_Halves.l0_eq, if_pos (by omega), if_neg (by omega), groatref05_In L hL, Option.bind_some, wrap_succ (by omega)]
    by_cases hx : isIn L (65 + c) = true
    · rw [if_pos hx] at ih
      rw [if_pos (show decide (((65 + c : Nat) : Int) ∈ L) = true from hx)]; exact ih
    · rw [if_neg hx] at ih
      rw [if_neg (show ¬ decide (((65 + c : Nat) : Int) ∈ L) = true from hx)]; exact ih
theorem groatref05_Halves_l1 (L : List Int) (hL : L.length ≤ 1000000) : ∀ (d k c : Nat), c + d = 64 → d + 64 < k →
    groatref05_Halves.l0 k L (hor (isIn L) 1 c : Int) 0 ((1 + c : Nat) : Int) = some ((hor (isIn L) 1 64 : Int), (hor (isIn L) 65 64 : Int))
  | 0, k, c, hc, hk => by
    obtain rfl : c = 64 := by omega
    exact groatref05_Halves_l2 L hL _ 64 k 0 (by omega) (by omega)
  | d + 1, k, c, hc, hk => by
    obtain ⟨k, rfl⟩ : ∃ m, k = m + 1 := ⟨k - 1, by omega⟩
    have ih := groatref05_Halves_l1 L hL d k (c + 1) (by omega) (by omega)
    rw [← two_more (isIn L) 1 (by omega) (m := 0), ← Nat.add_assoc] at ih
    rw [groatref05_Halves.l0_eq, if_pos (by omega), if_pos (by omega), groatref05_In L hL, Option.bind_some, wrap_succ (by omega)]
    by_cases hx : isIn L (1 + c) = true
    · rw [if_pos hx] at ih
      rw [if_pos (show decide (((1 + c : Nat) : Int) ∈ L) = true from hx)]; exact ih
    · rw [if_neg hx] at ih
      rw [if_neg (show ¬ decide (((1 + c : Nat) : Int) ∈ L) = true from hx)]; exact ih
noncomputable def groatref05_Halves.c : Con := ⟨15, groatref05_Halves.sg, groatref05_Halves.rs, groatref05_Halves.f⟩
theorem groatref05_Halves.con : ConOk Try.prog groatref05_Halves.c := walked (C := groatref05_Halves.C) rfl (by kernel_rfl) (by kernel_rfl) (by kernel_rfl) rfl ⟨groatref05_In.con, trivial⟩ fun L y h => by
  have h : groatref05_Halves.f L = some y := h
  unfold groatref05_Halves.f at h
  split at h
  · rename_i hc
    exact ⟨129, by rw [groatref05_Halves.eq]; exact (groatref05_Halves_l1 L hc 64 _ 0 (by omega) (by omega)).trans h⟩
  · cases h
end Go.Proofs.Ytnhogpbibcgpkaa.Xe
