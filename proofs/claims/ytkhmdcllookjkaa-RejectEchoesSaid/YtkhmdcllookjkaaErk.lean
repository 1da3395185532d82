/- What the program's check of a way to refuse answers. -/
import Derived.Test.YtkhmdcllookjkaaNRej
import Derived.Test.YtkhmdcllookjkaaEms
namespace Go.Proofs.Ytkhmdcllookjkaa.Xe
open Go Go.RowKit Go.Proofs.Ytkhmdcllookjkaa.Sp
set_option linter.unusedVariables false
set_option linter.unusedSimpArgs false
set_option maxRecDepth 100000
theorem lsub_take {α : Type} (l : List α) (i : Nat) (h : i ≤ l.length) : lsub l 0 (i : Int) = some (l.take i) := by
  unfold lsub
  rw [if_pos (by omega)]; rfl
theorem take_snoc {α : Type} {l m : List α} {a : α} {i : Nat} (h : l.drop i = a :: m) : l.take (i + 1) = l.take i ++ [a] := by
  have hlt : i < l.length := (dropc h).1
  have h2 := h
  rw [List.drop_eq_getElem_cons hlt] at h2
  rw [List.take_add_one, List.getElem?_eq_getElem hlt, (List.cons.inj h2).1]; rfl
/-! ### slices_Index_int -/
@[reducible] def slices_Index_int.sg : List Shp := [.v (.sl (.int .i64)), .v (.int .i64)]
@[reducible] def slices_Index_int.rs : Rs := .one (.v (.int .i64))
@[reducible] noncomputable def slices_Index_int.code : Code := Try.f92.body.getD .skip
noncomputable def slices_Index_int.C : Ctx := ⟨tab, [], [], ⟨[(2, [0, 1, 7, 8], 0)], []⟩⟩
noncomputable def slices_Index_int.l0 (n : Nat) (v0 : List Int) (v1 : Int) (v2 : Int) (v3 : Int) : Option Int := run slices_Index_int.C (finOf slices_Index_int.C Try.f92 slices_Index_int.rs) n (todoAt 2 slices_Index_int.code) ⟨[.sl none (.int .i64) v0, .int .i64 v1, .junk, .junk, .junk, .junk, .junk, .int .i64 v2, .int .i64 v3, .junk, .junk, .junk, .junk, .junk, .junk, .junk, .junk, .junk, .junk], [], []⟩
-- the loop at region 2
theorem slices_Index_int.l0_eq (n : Nat) (v0 : List Int) (v1 : Int) (v2 : Int) (v3 : Int) : slices_Index_int.l0 (n + 1) v0 v1 v2 v3 =
  (if v3 < v2 then ((lget v0 v3).bind fun b0 =>
   (if v1 = b0 then (some v3)
   else (slices_Index_int.l0 n v0 v1 v2 (IntKind.wrap IntKind.i64 (v3 + 1)))))
  else (some (-1))) := by kernel_rfl
theorem slices_Index_int.eq (n : Nat) (a0 : List Int) (a1 : Int) : call slices_Index_int.C Try.f92 slices_Index_int.code slices_Index_int.sg slices_Index_int.rs n (a0, a1) =
  (slices_Index_int.l0 n a0 a1 ((↑(List.length a0) : Int)) 0) := by kernel_rfl
def idxI (n : Int) : Nat → List Int → Int
  | _, [] => -1
  | i, v :: m => if n = v then (i : Int) else idxI n (i + 1) m
theorem idxI_mem (n : Int) : ∀ (l : List Int) (i : Nat), (idxI n i l ≥ 0) ↔ n ∈ l
  | [], i => by simp [idxI]
  | v :: m, i => by
    rw [idxI, List.mem_cons]
    by_cases c : n = v
    · rw [if_pos c]; exact ⟨fun _ => .inl c, fun _ => by omega⟩
    · rw [if_neg c, idxI_mem n m (i + 1)]
      exact ⟨.inr, fun h => h.elim (fun e => absurd e c) id⟩
def slices_Index_int.f (x : List Int × Int) : Option Int := if x.1.length ≤ 1000000 then some (idxI x.2 0 x.1) else none
theorem slices_Index_int_l (l : List Int) (hl : l.length ≤ 1000000) (n : Int) : ∀ (m : List Int) (k i : Nat), l.drop i = m → m.length < k → slices_Index_int.l0 k l n (l.length : Int) (i : Int) = some (idxI n i m)
  | [], k, i, hd, hk => by
    obtain ⟨k, rfl⟩ : ∃ m, k = m + 1 := ⟨k - 1, by omega⟩
    have := dropn hd
    rw [slices_Index_int.l0_eq, if_neg (by omega)]; rfl
  | v :: m, k, i, hd, hk => by
    obtain ⟨k, rfl⟩ : ∃ m, k = m + 1 := ⟨k - 1, by omega⟩
    obtain ⟨e1, e2, e3, e4⟩ := dropc hd
    have hk' : m.length < k := by simp at hk; omega
    rw [slices_Index_int.l0_eq, if_pos (by omega), e4, Option.bind_some, wrap_succ (by omega), slices_Index_int_l l hl n m k (i + 1) e2 hk', idxI]
    by_cases c : n = v
    · rw [if_pos c, if_pos c]
    · rw [if_neg c, if_neg c]
noncomputable def slices_Index_int.c : Con := ⟨92, slices_Index_int.sg, slices_Index_int.rs, slices_Index_int.f⟩
theorem slices_Index_int.con : ConOk Try.prog slices_Index_int.c := walked (C := slices_Index_int.C) rfl (by kernel_rfl) (by kernel_rfl) (by kernel_rfl) rfl trivial fun ⟨l, n⟩ y h => by
  have h : slices_Index_int.f (l, n) = some y := h
  unfold slices_Index_int.f at h
  split at h
  · rename_i hc
    exact ⟨l.length + 1, by rw [slices_Index_int.eq]; exact (slices_Index_int_l l hc n l _ 0 rfl (by omega)).trans h⟩
  · cases h
/-! ### slices_Contains_int -/
@[reducible] def slices_Contains_int.sg : List Shp := [.v (.sl (.int .i64)), .v (.int .i64)]
@[reducible] def slices_Contains_int.rs : Rs := .one (.v (.bool))
@[reducible] noncomputable def slices_Contains_int.code : Code := Try.f75.body.getD .skip
noncomputable def slices_Contains_int.C : Ctx := ⟨tab, [slices_Index_int.c], [], ⟨[], []⟩⟩
theorem slices_Contains_int.eq (n : Nat) (a0 : List Int) (a1 : Int) : call slices_Contains_int.C Try.f75 slices_Contains_int.code slices_Contains_int.sg slices_Contains_int.rs n (a0, a1) =
  ((slices_Index_int.f (a0, a1)).bind fun b0 =>
  (some (decide (b0 ≥ 0)))) := by kernel_rfl
noncomputable def slices_Contains_int.f : El (sgTy slices_Contains_int.sg) → Option (El slices_Contains_int.rs.ty) := fun x => match x with
  | (a0, a1) =>
  ((slices_Index_int.f (a0, a1)).bind fun b0 =>
  (some (decide (b0 ≥ 0))))
noncomputable def slices_Contains_int.c : Con := ⟨75, slices_Contains_int.sg, slices_Contains_int.rs, slices_Contains_int.f⟩
theorem slices_Contains_int.con : ConOk Try.prog slices_Contains_int.c := walked (C := slices_Contains_int.C) rfl (by kernel_rfl) (by kernel_rfl) (by kernel_rfl) rfl ⟨slices_Index_int.con, trivial⟩ fun ⟨a0, a1⟩ y h => ⟨0, (slices_Contains_int.eq 0 a0 a1).trans h⟩
theorem slices_Contains_int (l : List Int) (hl : l.length ≤ 1000000) (n : Int) : slices_Contains_int.f (l, n) = some (decide (n ∈ l)) := by
  have e : slices_Index_int.f (l, n) = some (idxI n 0 l) := if_pos hl
  simp only [slices_Contains_int.f]
  rw [e, Option.bind_some]
  congr 1
  exact decide_eq_decide.2 (idxI_mem n l 0)
/-! ### reject_code_1 -/
@[reducible] def reject_code_1.sg : List Shp := [.a (.pair (.int .i64) (.str)), .p (.pair (.int .i64) (.str))]
@[reducible] def reject_code_1.rs : Rs := .one (.v (.bool))
@[reducible] noncomputable def reject_code_1.code : Code := Try.f77.body.getD .skip
noncomputable def reject_code_1.C : Ctx := ⟨tab, [], [], ⟨[], []⟩⟩
theorem reject_code_1.eq (n : Nat) (a0 : Int) (a1 : ByteArray) (a2 : Int) (a3 : ByteArray) : call reject_code_1.C Try.f77 reject_code_1.code reject_code_1.sg reject_code_1.rs n ((a0, a1), (a2, a3)) =
  (some (decide (a0 = a2))) := by kernel_rfl
noncomputable def reject_code_1.f : El (sgTy reject_code_1.sg) → Option (El reject_code_1.rs.ty) := fun x => match x with
  | ((a0, a1), (a2, a3)) =>
  (some (decide (a0 = a2)))
noncomputable def reject_code_1.c : Con := ⟨77, reject_code_1.sg, reject_code_1.rs, reject_code_1.f⟩
theorem reject_code_1.con : ConOk Try.prog reject_code_1.c := walked (C := reject_code_1.C) rfl (by kernel_rfl) (by kernel_rfl) (by kernel_rfl) rfl trivial fun ⟨⟨a0, a1⟩, ⟨a2, a3⟩⟩ y h => ⟨0, (reject_code_1.eq 0 a0 a1 a2 a3).trans h⟩
/-! ### slices_IndexFunc_Code -/
@[reducible] def slices_IndexFunc_Code.sg : List Shp := [.v (.sl (.pair (.int .i64) (.str))), .fn 77 [.pair (.int .i64) (.str)]]
@[reducible] def slices_IndexFunc_Code.rs : Rs := .one (.v (.int .i64))
@[reducible] noncomputable def slices_IndexFunc_Code.code : Code := Try.f93.body.getD .skip
noncomputable def slices_IndexFunc_Code.C : Ctx := ⟨tab, [reject_code_1.c], [], ⟨[(2, [0, 1, 7, 8], 0)], []⟩⟩
noncomputable def slices_IndexFunc_Code.l0 (n : Nat) (v0 : List ((Int × ByteArray))) (v1 : (Int × ByteArray)) (v2 : Int) (v3 : Int) : Option Int := run slices_IndexFunc_Code.C (finOf slices_IndexFunc_Code.C Try.f93 slices_IndexFunc_Code.rs) n (todoAt 2 slices_IndexFunc_Code.code) ⟨[.sl none (.pair (.int .i64) (.str)) v0, .fn 77 [.elp (.pair (.int .i64) (.str)) v1 0], .junk, .junk, .junk, .junk, .junk, .int .i64 v2, .int .i64 v3, .junk, .junk, .junk, .junk, .junk, .junk, .junk, .junk, .junk, .junk], [], []⟩
-- the loop at region 2
theorem slices_IndexFunc_Code.l0_eq (n : Nat) (v0 : List ((Int × ByteArray))) (v1 : (Int × ByteArray)) (v2 : Int) (v3 : Int) : slices_IndexFunc_Code.l0 (n + 1) v0 v1 v2 v3 =
  (if v3 < v2 then ((lget v0 v3).bind fun b0 =>
   ((reject_code_1.f (b0, v1)).bind fun b1 =>
   (if b1 = true then (some v3)
   else (slices_IndexFunc_Code.l0 n v0 v1 v2 (IntKind.wrap IntKind.i64 (v3 + 1))))))
  else (some (-1))) := by kernel_rfl
theorem slices_IndexFunc_Code.eq (n : Nat) (a0 : List ((Int × ByteArray))) (a1 : Int) (a2 : ByteArray) : call slices_IndexFunc_Code.C Try.f93 slices_IndexFunc_Code.code slices_IndexFunc_Code.sg slices_IndexFunc_Code.rs n (a0, (a1, a2)) =
  (slices_IndexFunc_Code.l0 n a0 ((a1, a2)) ((↑(List.length a0) : Int)) 0) := by kernel_rfl
def slices_IndexFunc_Code.f (x : List V × Int × ByteArray) : Option Int := if x.1.length ≤ 1000000 then some (findV x.2.1 0 x.1) else none
theorem slices_IndexFunc_Code_l (l : List V) (hl : l.length ≤ 1000000) (w : V) : ∀ (m : List V) (k i : Nat), l.drop i = m → m.length < k → slices_IndexFunc_Code.l0 k l w (l.length : Int) (i : Int) = some (findV w.1 i m)
  | [], k, i, hd, hk => by
    obtain ⟨k, rfl⟩ : ∃ m, k = m + 1 := ⟨k - 1, by omega⟩
    have := dropn hd
    rw [slices_IndexFunc_Code.l0_eq, if_neg (by omega)]; rfl
  | v :: m, k, i, hd, hk => by
    obtain ⟨k, rfl⟩ : ∃ m, k = m + 1 := ⟨k - 1, by omega⟩
    obtain ⟨e1, e2, e3, e4⟩ := dropc hd
    have hk' : m.length < k := by simp at hk; omega
    have e5 : reject_code_1.f (v, w) = some (decide (v.1 = w.1)) := rfl
    rw [slices_IndexFunc_Code.l0_eq, if_pos (by omega), e4, Option.bind_some, e5, Option.bind_some, wrap_succ (by omega), slices_IndexFunc_Code_l l hl w m k (i + 1) e2 hk', findV]
    by_cases c : v.1 = w.1
    · rw [if_pos (decide_eq_true c), if_pos c]
    · rw [if_neg (by simpa using c), if_neg c]
noncomputable def slices_IndexFunc_Code.c : Con := ⟨93, slices_IndexFunc_Code.sg, slices_IndexFunc_Code.rs, slices_IndexFunc_Code.f⟩
theorem slices_IndexFunc_Code.con : ConOk Try.prog slices_IndexFunc_Code.c := walked (C := slices_IndexFunc_Code.C) rfl (by kernel_rfl) (by kernel_rfl) (by kernel_rfl) rfl ⟨reject_code_1.con, trivial⟩ fun ⟨l, n, z⟩ y h => by
  have h : slices_IndexFunc_Code.f (l, n, z) = some y := h
  unfold slices_IndexFunc_Code.f at h
  split at h
  · rename_i hc
    exact ⟨List.length (α := V) l + 1, by rw [slices_IndexFunc_Code.eq]; exact (slices_IndexFunc_Code_l l hc (n, z) l _ 0 rfl (by omega)).trans h⟩
  · cases h
theorem findV_mem (n : Int) : ∀ (l : List V) (i : Nat), (findV n i l ≥ 0) ↔ n ∈ l.map Prod.fst
  | [], i => by simp [findV]
  | v :: m, i => by
    rw [findV, List.map_cons, List.mem_cons]
    by_cases c : v.1 = n
    · rw [if_pos c]; exact ⟨fun _ => .inl c.symm, fun _ => by omega⟩
    · rw [if_neg c, findV_mem n m (i + 1)]
      exact ⟨.inr, fun h => h.elim (fun e => absurd e.symm c) id⟩
/-! ### slices_ContainsFunc_Code -/
@[reducible] def slices_ContainsFunc_Code.sg : List Shp := [.v (.sl (.pair (.int .i64) (.str))), .fn 77 [.pair (.int .i64) (.str)]]
@[reducible] def slices_ContainsFunc_Code.rs : Rs := .one (.v (.bool))
@[reducible] noncomputable def slices_ContainsFunc_Code.code : Code := Try.f76.body.getD .skip
noncomputable def slices_ContainsFunc_Code.C : Ctx := ⟨tab, [reject_code_1.c, slices_IndexFunc_Code.c], [], ⟨[], []⟩⟩
theorem slices_ContainsFunc_Code.eq (n : Nat) (a0 : List ((Int × ByteArray))) (a1 : Int) (a2 : ByteArray) : call slices_ContainsFunc_Code.C Try.f76 slices_ContainsFunc_Code.code slices_ContainsFunc_Code.sg slices_ContainsFunc_Code.rs n (a0, (a1, a2)) =
  ((slices_IndexFunc_Code.f (a0, a1, a2)).bind fun b0 =>
  (some (decide (b0 ≥ 0)))) := by kernel_rfl
noncomputable def slices_ContainsFunc_Code.f : El (sgTy slices_ContainsFunc_Code.sg) → Option (El slices_ContainsFunc_Code.rs.ty) := fun x => match x with
  | (a0, (a1, a2)) =>
  ((slices_IndexFunc_Code.f (a0, a1, a2)).bind fun b0 =>
  (some (decide (b0 ≥ 0))))
noncomputable def slices_ContainsFunc_Code.c : Con := ⟨76, slices_ContainsFunc_Code.sg, slices_ContainsFunc_Code.rs, slices_ContainsFunc_Code.f⟩
theorem slices_ContainsFunc_Code.con : ConOk Try.prog slices_ContainsFunc_Code.c := walked (C := slices_ContainsFunc_Code.C) rfl (by kernel_rfl) (by kernel_rfl) (by kernel_rfl) rfl ⟨reject_code_1.con, slices_IndexFunc_Code.con, trivial⟩ fun ⟨a0, ⟨a1, a2⟩⟩ y h => ⟨0, (slices_ContainsFunc_Code.eq 0 a0 a1 a2).trans h⟩
theorem slices_ContainsFunc_Code (l : List V) (hl : l.length ≤ 1000000) (w : V) : slices_ContainsFunc_Code.f (l, w) = some (decide (w.1 ∈ l.map Prod.fst)) := by
  have e : slices_IndexFunc_Code.f (l, w) = some (findV w.1 0 l) := if_pos hl
  obtain ⟨a, b⟩ := w
  simp only [slices_ContainsFunc_Code.f]
  rw [e, Option.bind_some]
  congr 1
  exact decide_eq_decide.2 (findV_mem a l 0)
end Go.Proofs.Ytkhmdcllookjkaa.Xe
