import Derived.Test.YtkaihbkfobiejaaGreatDoorZ7
import Derived.Test.YtkaihbkfobiejaaGreatDoorZ9
namespace Go.Proofs.YtkaihbkfobiejaaGreatDoor.Xe
open Go Go.RowKit Go.Proofs.YtkaihbkfobiejaaGreatDoor.Sp
set_option linter.unusedVariables false
set_option linter.unusedSimpArgs false
set_option maxRecDepth 100000
theorem lsub_take {α : Type} (l : List α) (i : Nat) (h : i ≤ l.length) : lsub l 0 (i : Int) = some (l.take i) := by
 unfold lsub
 rw [if_pos (by omega)]; rfl
theorem take_snoc {α : Type} {l m : List α} {a : α} {i : Nat} (h : l.drop i = a :: m) : l.take (i + 1) = l.take i ++ [a] := by
 have hlt : i < l.length := (dropc h).1
 have h2 := h
 rw [List.drop_eq_getElem_cons hlt] at h2
 rw [List.take_add_one, List.getElem?_eq_getElem hlt, (List.cons.inj h2).1]; rfl
@[reducible] def slices_Index_int.sg : List Shp := [.v (.sl (.int .i64)), .v (.int .i64)]
@[reducible] def slices_Index_int.rs : Rs := .one (.v (.int .i64))
@[reducible] noncomputable def slices_Index_int.code : Code := Tryz.f189.body.getD .skip
noncomputable def slices_Index_int.C : Ctx := ⟨tab, [], [], ⟨[(2, [0, 1, 7, 8], 0)], []⟩⟩
noncomputable def slices_Index_int.l0 (n : Nat) (v0 : List Int) (v1 v2 v3 : Int) : Option Int := run slices_Index_int.C (finOf slices_Index_int.C Tryz.f189 slices_Index_int.rs) n (todoAt 2 slices_Index_int.code) ⟨.sl none (.int .i64) v0 :: .int .i64 v1 :: zJ :: zJ :: zJ :: zJ :: zJ :: .int .i64 v2 :: .int .i64 v3 :: zJ :: zJ :: zK [], [], []⟩
theorem slices_Index_int.l0_eq n v0 v1 v2 v3 : slices_Index_int.l0 (n + 1) v0 v1 v2 v3 =
 (if v3 < v2 then ((lget v0 v3).bind fun b0 =>
 (if v1 = b0 then (some v3)
 else (slices_Index_int.l0 n v0 v1 v2 (IntKind.wrap .i64 (v3 + 1)))))
 else (some (-1))) := by kernel_rfl
theorem slices_Index_int.eq (n : Nat) (a0 : List Int) (a1 : Int) : call slices_Index_int.C Tryz.f189 slices_Index_int.code slices_Index_int.sg slices_Index_int.rs n (a0, a1) =
 (slices_Index_int.l0 n a0 a1 (a0.length : Int) 0) := by kernel_rfl
def idxI (n : Int) : Nat → List Int → Int
 | _, [] => -1
 | i, v :: m => if n = v then (i : Int) else idxI n (i + 1) m
theorem idxI_mem (n : Int) : ∀ (l : List Int) (i : Nat), (idxI n i l ≥ 0) ↔ n ∈ l
 | [], i => by simp [idxI]
 | v :: m, i => by
  rw [idxI, List.mem_cons]
  by_cases c : n = v
  ·rw [if_pos c]; exact ⟨fun _ => .inl c, fun _ => by omega⟩
  ·rw [if_neg c, idxI_mem n m (i + 1)]
   exact ⟨.inr, fun h => h.elim (fun e => absurd e c) id⟩
def slices_Index_int.f (x : List Int × Int) : Option Int := if x.1.length ≤ 1000000 then some (idxI x.2 0 x.1) else none
theorem slices_Index_int_l (l : List Int) (hl : l.length ≤ 1000000) (n : Int) : ∀ (m : List Int) (k i : Nat), l.drop i = m → m.length < k → slices_Index_int.l0 k l n (l.length : Int) (i : Int) = some (idxI n i m)
 | [], k, i, hd, hk => by
  obtain ⟨k, rfl⟩ : ∃ m, k = m + 1 := ⟨k - 1, by omega⟩
  have := dropn hd
  rw [slices_Index_int.l0_eq, if_neg (by omega)]; rfl
 | v :: m, k, i, hd, hk => by
  obtain ⟨k, rfl⟩ : ∃ m, k = m + 1 := ⟨k - 1, by omega⟩
  obtain ⟨e1, e2, e3, e4⟩ := dropc hd
  have hk' : m.length < k := by simp at hk; omega
  rw [slices_Index_int.l0_eq, if_pos (by omega), e4, Option.bind_some, wrap_succ (by omega), slices_Index_int_l l hl n m k (i + 1) e2 hk', idxI]
  by_cases c : n = v
  ·rw [if_pos c, if_pos c]
  ·rw [if_neg c, if_neg c]
noncomputable def slices_Index_int.c : Con := ⟨189, slices_Index_int.sg, slices_Index_int.rs, slices_Index_int.f⟩
theorem slices_Index_int.con : ConOk Tryz.prog slices_Index_int.c := walked (C := slices_Index_int.C) rfl (by kernel_rfl) (by kernel_rfl) (by kernel_rfl) rfl trivial fun ⟨l, n⟩ y h => by
 have h : slices_Index_int.f (l, n) = some y := h
 unfold slices_Index_int.f at h
 split at h
 ·rename_i hc
  exact ⟨l.length + 1, by rw [slices_Index_int.eq]; exact (slices_Index_int_l l hc n l _ 0 rfl (by omega)).trans h⟩
 ·cases h
@[reducible] def slices_Contains_int.sg : List Shp := [.v (.sl (.int .i64)), .v (.int .i64)]
@[reducible] def slices_Contains_int.rs : Rs := .one (.v (.bool))
@[reducible] noncomputable def slices_Contains_int.code : Code := Tryz.f172.body.getD .skip
noncomputable def slices_Contains_int.C : Ctx := ⟨tab, [slices_Index_int.c], [], ⟨[], []⟩⟩
theorem slices_Contains_int.eq (n : Nat) (a0 : List Int) (a1 : Int) : call slices_Contains_int.C Tryz.f172 slices_Contains_int.code slices_Contains_int.sg slices_Contains_int.rs n (a0, a1) =
 ((slices_Index_int.f (a0, a1)).bind fun b0 =>
 (some (decide (b0 ≥ 0)))) := by kernel_rfl
noncomputable def slices_Contains_int.f : El (sgTy slices_Contains_int.sg) → Option (El slices_Contains_int.rs.ty) := fun x => match x with
 | (a0, a1) =>
 ((slices_Index_int.f (a0, a1)).bind fun b0 =>
 (some (decide (b0 ≥ 0))))
noncomputable def slices_Contains_int.c : Con := ⟨172, slices_Contains_int.sg, slices_Contains_int.rs, slices_Contains_int.f⟩
theorem slices_Contains_int.con : ConOk Tryz.prog slices_Contains_int.c := walked (C := slices_Contains_int.C) rfl (by kernel_rfl) (by kernel_rfl) (by kernel_rfl) rfl ⟨slices_Index_int.con, trivial⟩ fun ⟨a0, a1⟩ y h => ⟨0, (slices_Contains_int.eq 0 a0 a1).trans h⟩
theorem slices_Contains_int (l : List Int) (hl : l.length ≤ 1000000) (n : Int) : slices_Contains_int.f (l, n) = some (decide (n ∈ l)) := by
 have e : slices_Index_int.f (l, n) = some (idxI n 0 l) := if_pos hl
 simp only [slices_Contains_int.f]
 rw [e, Option.bind_some]
 congr 1
 exact decide_eq_decide.2 (idxI_mem n l 0)
@[reducible] def reject_code_1.sg : List Shp := [.a zdE, .p zdE]
@[reducible] def reject_code_1.rs : Rs := .one (.v (.bool))
@[reducible] noncomputable def reject_code_1.code : Code := Tryz.f174.body.getD .skip
noncomputable def reject_code_1.C : Ctx := ⟨tab, [], [], ⟨[], []⟩⟩
theorem reject_code_1.eq (n : Nat) (a0 : Int) (a1 : ByteArray) (a2 : Int) (a3 : ByteArray) : call reject_code_1.C Tryz.f174 reject_code_1.code reject_code_1.sg reject_code_1.rs n ((a0, a1), (a2, a3)) =
 (some (decide (a0 = a2))) := by kernel_rfl
noncomputable def reject_code_1.f : El (sgTy reject_code_1.sg) → Option (El reject_code_1.rs.ty) := fun x => match x with
 | ((a0, a1), (a2, a3)) =>
 (some (decide (a0 = a2)))
noncomputable def reject_code_1.c : Con := ⟨174, reject_code_1.sg, reject_code_1.rs, reject_code_1.f⟩
theorem reject_code_1.con : ConOk Tryz.prog reject_code_1.c := walked (C := reject_code_1.C) rfl (by kernel_rfl) (by kernel_rfl) (by kernel_rfl) rfl trivial fun ⟨⟨a0, a1⟩, ⟨a2, a3⟩⟩ y h => ⟨0, (reject_code_1.eq 0 a0 a1 a2 a3).trans h⟩
@[reducible] def slices_IndexFunc_Code.sg : List Shp := [.v (.sl zdE), .fn 174 [.pair (.int .i64) (.str)]]
@[reducible] def slices_IndexFunc_Code.rs : Rs := .one (.v (.int .i64))
@[reducible] noncomputable def slices_IndexFunc_Code.code : Code := Tryz.f190.body.getD .skip
noncomputable def slices_IndexFunc_Code.C : Ctx := ⟨tab, [reject_code_1.c], [], ⟨[(2, [0, 1, 7, 8], 0)], []⟩⟩
noncomputable def slices_IndexFunc_Code.l0 (n : Nat) (v0 : List zE) (v1 : zE) (v2 v3 : Int) : Option Int := run slices_IndexFunc_Code.C (finOf slices_IndexFunc_Code.C Tryz.f190 slices_IndexFunc_Code.rs) n (todoAt 2 slices_IndexFunc_Code.code) ⟨.sl none zdE v0 :: .fn 174 [.elp zdE v1 0] :: zJ :: zJ :: zJ :: zJ :: zJ :: .int .i64 v2 :: .int .i64 v3 :: zJ :: zJ :: zK [], [], []⟩
theorem slices_IndexFunc_Code.l0_eq n v0 v1 v2 v3 : slices_IndexFunc_Code.l0 (n + 1) v0 v1 v2 v3 =
 (if v3 < v2 then ((lget v0 v3).bind fun b0 =>
 ((reject_code_1.f (b0, v1)).bind fun b1 =>
 (if b1 = true then (some v3)
 else (slices_IndexFunc_Code.l0 n v0 v1 v2 (IntKind.wrap .i64 (v3 + 1))))))
 else (some (-1))) := by kernel_rfl
theorem slices_IndexFunc_Code.eq (n : Nat) (a0 : List zE) (a1 : Int) (a2 : ByteArray) : call slices_IndexFunc_Code.C Tryz.f190 slices_IndexFunc_Code.code slices_IndexFunc_Code.sg slices_IndexFunc_Code.rs n (a0, (a1, a2)) =
 (slices_IndexFunc_Code.l0 n a0 ((a1, a2)) (a0.length : Int) 0) := by kernel_rfl
def slices_IndexFunc_Code.f (x : List V × Int × ByteArray) : Option Int := if x.1.length ≤ 1000000 then some (findV x.2.1 0 x.1) else none
theorem slices_IndexFunc_Code_l (l : List V) (hl : l.length ≤ 1000000) (w : V) : ∀ (m : List V) (k i : Nat), l.drop i = m → m.length < k → slices_IndexFunc_Code.l0 k l w (l.length : Int) (i : Int) = some (findV w.1 i m)
 | [], k, i, hd, hk => by
  obtain ⟨k, rfl⟩ : ∃ m, k = m + 1 := ⟨k - 1, by omega⟩
  have := dropn hd
  rw [slices_IndexFunc_Code.l0_eq, if_neg (by omega)]; rfl
 | v :: m, k, i, hd, hk => by
  obtain ⟨k, rfl⟩ : ∃ m, k = m + 1 := ⟨k - 1, by omega⟩
  obtain ⟨e1, e2, e3, e4⟩ := dropc hd
  have hk' : m.length < k := by simp at hk; omega
  have e5 : reject_code_1.f (v, w) = some (decide (v.1 = w.1)) := rfl
  rw [slices_IndexFunc_Code.l0_eq, if_pos (by omega), e4, Option.bind_some, e5, Option.bind_some, wrap_succ (by omega), slices_IndexFunc_Code_l l hl w m k (i + 1) e2 hk', findV]
  by_cases c : v.1 = w.1
  ·rw [if_pos (decide_eq_true c), if_pos c]
  ·rw [if_neg (by simpa using c), if_neg c]
noncomputable def slices_IndexFunc_Code.c : Con := ⟨190, slices_IndexFunc_Code.sg, slices_IndexFunc_Code.rs, slices_IndexFunc_Code.f⟩
theorem slices_IndexFunc_Code.con : ConOk Tryz.prog slices_IndexFunc_Code.c := walked (C := slices_IndexFunc_Code.C) rfl (by kernel_rfl) (by kernel_rfl) (by kernel_rfl) rfl ⟨reject_code_1.con, trivial⟩ fun ⟨l, n, z⟩ y h => by
 have h : slices_IndexFunc_Code.f (l, n, z) = some y := h
 unfold slices_IndexFunc_Code.f at h
 split at h
 ·rename_i hc
  exact ⟨List.length (α := V) l + 1, by rw [slices_IndexFunc_Code.eq]; exact (slices_IndexFunc_Code_l l hc (n, z) l _ 0 rfl (by omega)).trans h⟩
 ·cases h
theorem findV_mem (n : Int) : ∀ (l : List V) (i : Nat), (findV n i l ≥ 0) ↔ n ∈ l.map Prod.fst
 | [], i => by simp [findV]
 | v :: m, i => by
  rw [findV, List.map_cons, List.mem_cons]
  by_cases c : v.1 = n
  ·rw [if_pos c]; exact ⟨fun _ => .inl c.symm, fun _ => by omega⟩
  ·rw [if_neg c, findV_mem n m (i + 1)]
   exact ⟨.inr, fun h => h.elim (fun e => absurd e.symm c) id⟩
@[reducible] def slices_ContainsFunc_Code.sg : List Shp := [.v (.sl zdE), .fn 174 [.pair (.int .i64) (.str)]]
@[reducible] def slices_ContainsFunc_Code.rs : Rs := .one (.v (.bool))
@[reducible] noncomputable def slices_ContainsFunc_Code.code : Code := Tryz.f173.body.getD .skip
noncomputable def slices_ContainsFunc_Code.C : Ctx := ⟨tab, [reject_code_1.c, slices_IndexFunc_Code.c], [], ⟨[], []⟩⟩
theorem slices_ContainsFunc_Code.eq (n : Nat) (a0 : List zE) (a1 : Int) (a2 : ByteArray) : call slices_ContainsFunc_Code.C Tryz.f173 slices_ContainsFunc_Code.code slices_ContainsFunc_Code.sg slices_ContainsFunc_Code.rs n (a0, (a1, a2)) =
 ((slices_IndexFunc_Code.f (a0, a1, a2)).bind fun b0 =>
 (some (decide (b0 ≥ 0)))) := by kernel_rfl
noncomputable def slices_ContainsFunc_Code.f : El (sgTy slices_ContainsFunc_Code.sg) → Option (El slices_ContainsFunc_Code.rs.ty) := fun x => match x with
 | (a0, (a1, a2)) =>
 ((slices_IndexFunc_Code.f (a0, a1, a2)).bind fun b0 =>
 (some (decide (b0 ≥ 0))))
noncomputable def slices_ContainsFunc_Code.c : Con := ⟨173, slices_ContainsFunc_Code.sg, slices_ContainsFunc_Code.rs, slices_ContainsFunc_Code.f⟩
theorem slices_ContainsFunc_Code.con : ConOk Tryz.prog slices_ContainsFunc_Code.c := walked (C := slices_ContainsFunc_Code.C) rfl (by kernel_rfl) (by kernel_rfl) (by kernel_rfl) rfl ⟨reject_code_1.con, slices_IndexFunc_Code.con, trivial⟩ fun ⟨a0, ⟨a1, a2⟩⟩ y h => ⟨0, (slices_ContainsFunc_Code.eq 0 a0 a1 a2).trans h⟩
theorem slices_ContainsFunc_Code (l : List V) (hl : l.length ≤ 1000000) (w : V) : slices_ContainsFunc_Code.f (l, w) = some (decide (w.1 ∈ l.map Prod.fst)) := by
 have e : slices_IndexFunc_Code.f (l, w) = some (findV w.1 0 l) := if_pos hl
 obtain ⟨a, b⟩ := w
 simp only [slices_ContainsFunc_Code.f]
 rw [e, Option.bind_some]
 congr 1
 exact decide_eq_decide.2 (findV_mem a l 0)
@[reducible] def reject_echo.sg : List Shp := [.a zdK, .v (.int .i64)]
@[reducible] def reject_echo.rs : Rs := .one (.v (.int .i64))
@[reducible] noncomputable def reject_echo.code : Code := Tryz.f148.body.getD .skip
noncomputable def reject_echo.C : Ctx := ⟨tab, [schema_Find.c, slices_Contains_int.c], [], ⟨[], []⟩⟩
theorem reject_echo.eq (n : Nat) (a0 a1 : Int) (a2 : List z5) (a3 : List zP) (a4 : List zR) (a5 : List Int) (a6 : List zE) (a7 : Int) : call reject_echo.C Tryz.f148 reject_echo.code reject_echo.sg reject_echo.rs n (((a0, (a1, a2)), ((a3, a4), (a5, a6))), a7) =
 ((lget a5 a7).bind fun b0 =>
 ((schema_Find.f ((a0, a1, a2), b0)).bind fun b1 =>
 (if ¬b1.2 = true then (some 9)
 else (if b0 = 39 then (some 1)
 else ((lsub a5 0 a7).bind fun b2 =>
 ((slices_Contains_int.f (b2, b0)).bind fun b3 =>
 (if b3 = true then (some 10)
 else (some 0)))))))) := by kernel_rfl
noncomputable def reject_echo.f : El (sgTy reject_echo.sg) → Option (El reject_echo.rs.ty) := fun x => match x with
 | (((a0, (a1, a2)), ((a3, a4), (a5, a6))), a7) =>
 ((lget a5 a7).bind fun b0 =>
 ((schema_Find.f ((a0, a1, a2), b0)).bind fun b1 =>
 (if ¬Prod.snd b1 = true then (some 9)
 else (if b0 = 39 then (some 1)
  else ((lsub a5 0 a7).bind fun b2 =>
  ((slices_Contains_int.f (b2, b0)).bind fun b3 =>
  (if b3 = true then (some 10)
  else (some 0))))))))
noncomputable def reject_echo.c : Con := ⟨148, reject_echo.sg, reject_echo.rs, reject_echo.f⟩
theorem reject_echo.con : ConOk Tryz.prog reject_echo.c := walked (C := reject_echo.C) rfl (by kernel_rfl) (by kernel_rfl) (by kernel_rfl) rfl ⟨schema_Find.con, slices_Contains_int.con, trivial⟩ fun ⟨⟨⟨a0, ⟨a1, a2⟩⟩, ⟨⟨a3, a4⟩, ⟨a5, a6⟩⟩⟩, a7⟩ y h => ⟨0, (reject_echo.eq 0 a0 a1 a2 a3 a4 a5 a6 a7).trans h⟩
theorem reject_echo (q1 q2 : Int) (s : List S5) (hs : s.length ≤ 1000000) (c : RC) (e : List Int) (he : e.length ≤ 1000000) (l : List V) (x : Int) (m : List Int) (i : Nat) (hd : e.drop i = x :: m) :
  reject_echo.f (((q1, q2, s), c, e, l), (i : Int)) = some (if (findS x s).2 = false then 9 else if x = 39 then 1 else if x ∈ e.take i then 10 else 0) := by
 obtain ⟨h1, h2, h3, h4⟩ := dropc hd
 obtain ⟨c1, c2⟩ := c
 simp only [reject_echo.f]
 rw [h4, Option.bind_some, schema_Find q1 q2 s hs, Option.bind_some]
 by_cases k1 : (findS x s).2 = false
 ·rw [if_pos (by simp [k1]), if_pos k1]
 rw [if_neg (by simpa using k1), if_neg k1]
 by_cases k2 : x = 39
 ·rw [if_pos k2, if_pos k2]
 rw [if_neg k2, if_neg k2, lsub_take e i (by omega), Option.bind_some, slices_Contains_int _ (by rw [List.length_take]; omega), Option.bind_some]
 by_cases k3 : x ∈ e.take i
 ·rw [if_pos (decide_eq_true k3), if_pos k3]
 ·rw [if_neg (by simpa using k3), if_neg k3]
@[reducible] def reject_code.sg : List Shp := [.a zdK, .v (.int .i64), .a zd5]
@[reducible] def reject_code.rs : Rs := .one (.v (.int .i64))
@[reducible] noncomputable def reject_code.code : Code := Tryz.f149.body.getD .skip
noncomputable def reject_code.C : Ctx := ⟨tab, [spec_Value.c, slices_ContainsFunc_Code.c], [], ⟨[], []⟩⟩
theorem reject_code.eq (n : Nat) (a0 a1 : Int) (a2 : List z5) (a3 : List zP) (a4 : List zR) (a5 : List Int) (a6 : List zE) (a7 a8 a9 a10 a11 a12 : Int) : call reject_code.C Tryz.f149 reject_code.code reject_code.sg reject_code.rs n (((a0, (a1, a2)), ((a3, a4), (a5, a6))), (a7, (a8, (a9, (a10, (a11, a12)))))) =
 ((lget a6 a7).bind fun b0 =>
 (if b0.1 < 0 then (some 1)
 else (if b0.1 > 16 then (some 1)
 else ((lsub a6 0 a7).bind fun b1 =>
 ((slices_ContainsFunc_Code.f (b1, b0)).bind fun b2 =>
 (if b2 = true then (some 10)
 else ((spec_Value.f ((a8, a9, a10, a11, a12), b0.2)).bind fun b3 =>
 (some b3)))))))) := by kernel_rfl
noncomputable def reject_code.f : El (sgTy reject_code.sg) → Option (El reject_code.rs.ty) := fun x => match x with
 | (((a0, (a1, a2)), ((a3, a4), (a5, a6))), (a7, (a8, (a9, (a10, (a11, a12)))))) =>
 ((lget a6 a7).bind fun b0 =>
 (if Prod.fst b0 < 0 then (some 1)
 else (if Prod.fst b0 > 16 then (some 1)
  else ((lsub a6 0 a7).bind fun b1 =>
  ((slices_ContainsFunc_Code.f (b1, b0)).bind fun b2 =>
  (if b2 = true then (some 10)
  else ((spec_Value.f ((a8, a9, a10, a11, a12), Prod.snd b0)).bind fun b3 =>
   (some b3))))))))
noncomputable def reject_code.c : Con := ⟨149, reject_code.sg, reject_code.rs, reject_code.f⟩
theorem reject_code.con : ConOk Tryz.prog reject_code.c := walked (C := reject_code.C) rfl (by kernel_rfl) (by kernel_rfl) (by kernel_rfl) rfl ⟨spec_Value.con, slices_ContainsFunc_Code.con, trivial⟩ fun ⟨⟨⟨a0, ⟨a1, a2⟩⟩, ⟨⟨a3, a4⟩, ⟨a5, a6⟩⟩⟩, ⟨a7, ⟨a8, ⟨a9, ⟨a10, ⟨a11, a12⟩⟩⟩⟩⟩⟩ y h => ⟨0, (reject_code.eq 0 a0 a1 a2 a3 a4 a5 a6 a7 a8 a9 a10 a11 a12).trans h⟩
theorem reject_code (s : Int × Int × List S5) (c : RC) (e : List Int) (l : List V) (hl : l.length ≤ 1000000) (p : S5) (v : V) (hv : v.2.size ≤ 1000000000000) (m : List V) (i : Nat) (hd : l.drop i = v :: m) :
  reject_code.f ((s, c, e, l), (i : Int), p) = some (if v.1 < 0 ∨ 16 < v.1 then 1 else if v.1 ∈ (l.take i).map Prod.fst then 10 else specA p (bl v.2)) := by
 obtain ⟨h1, h2, h3, h4⟩ := dropc hd
 obtain ⟨q1, q2, s⟩ := s
 obtain ⟨c1, c2⟩ := c
 obtain ⟨p1, p2, p3, p4, p5⟩ := p
 rw [size_bl] at hv
 have hsv := spec_Value p1 p2 p3 p4 p5 (bl v.2) hv
 rw [sb_bl] at hsv
 simp only [reject_code.f]
 rw [h4, Option.bind_some]
 by_cases k1 : v.1 < 0
 ·rw [if_pos k1, if_pos (.inl k1)]
 rw [if_neg k1]
 by_cases k2 : v.1 > 16
 ·rw [if_pos k2, if_pos (.inr k2)]
 rw [if_neg k2, if_neg (show ¬ (v.1 < 0 ∨ 16 < v.1) by omega), lsub_take l i (by omega), Option.bind_some, slices_ContainsFunc_Code _ (by rw [List.length_take]; omega), Option.bind_some]
 by_cases k3 : v.1 ∈ (l.take i).map Prod.fst
 ·rw [if_pos (decide_eq_true k3), if_pos k3]
 ·rw [if_neg (by simpa using k3), if_neg k3, hsv, Option.bind_some]; rfl
@[reducible] def reject_Check.sg : List Shp := [.a zdK]
@[reducible] def reject_Check.rs : Rs := .tup [.v (.int .i64), .v (.int .i64), .v (.int .i64)]
@[reducible] noncomputable def reject_Check.code : Code := Tryz.f113.body.getD .skip
noncomputable def reject_Check.C : Ctx := ⟨tab, [schema_Find.c, schema_Check.c, reject_echo.c, reject_code.c], [], ⟨[(8, [1, 7, 33, 34], 2), (16, [1, 7, 11, 46, 47, 48], 2)], []⟩⟩
noncomputable def reject_Check.l0 (n : Nat) (v0 v1 v2 v3 : Int) (v4 : List z5) (v5 : List zP) (v6 : List zR) (v7 : List Int) (v8 : List zE) (v9 v10 v11 v12 v13 : Int) : Option ((Int × (Int × Int))) := run reject_Check.C (finOf reject_Check.C Tryz.f113 reject_Check.rs) n (todoAt 8 reject_Check.code) ⟨zJ :: .ptr 0 0 :: zJ :: zJ :: zJ :: zJ :: zJ :: .ptr 1 0 :: zJ :: zK (zK (zK (.int .i64 v0 :: .int .i64 v1 :: zJ :: zJ :: zJ :: zJ :: zJ :: zJ :: zK (zK (zK (zK [])))))), [[.int .i64 v2, .int .i64 v3, .sl none zd5 v4, .sl none zdP v5, .sl none zdR v6, .sl none (.int .i64) v7, .sl none zdE v8], [.int .i64 v9, .int .i64 v10, .int .i64 v11, .int .i64 v12, .int .i64 v13]], []⟩
noncomputable def reject_Check.l1 (n : Nat) (v0 : Bool) (v1 : List zE) (v2 v3 v4 v5 : Int) (v6 : List z5) (v7 : List zP) (v8 : List zR) (v9 : List Int) (v10 : List zE) (v11 v12 v13 v14 v15 : Int) : Option ((Int × (Int × Int))) := run reject_Check.C (finOf reject_Check.C Tryz.f113 reject_Check.rs) n (todoAt 16 reject_Check.code) ⟨zJ :: .ptr 0 0 :: zJ :: zJ :: zJ :: zJ :: zJ :: .ptr 1 0 :: zJ :: zJ :: zJ :: .b v0 :: zJ :: zJ :: zK (zK (zK (zK (.sl none zdE v1 :: .int .i64 v2 :: .int .i64 v3 :: zK (zK (zK [])))))), [[.int .i64 v4, .int .i64 v5, .sl none zd5 v6, .sl none zdP v7, .sl none zdR v8, .sl none (.int .i64) v9, .sl none zdE v10], [.int .i64 v11, .int .i64 v12, .int .i64 v13, .int .i64 v14, .int .i64 v15]], []⟩
theorem reject_Check.l0_eq n v0 v1 v2 v3 v4 v5 v6 v7 v8 v9 v10 v11 v12 v13 : reject_Check.l0 (n + 1) v0 v1 v2 v3 v4 v5 v6 v7 v8 v9 v10 v11 v12 v13 =
 (if v1 < v0 then ((reject_echo.f (((v2, v3, v4), (v5, v6), v7, v8), v1)).bind fun b2 =>
 (if ¬b2 = 0 then (some ((b2, 2, v1)))
 else (reject_Check.l0 n v0 (IntKind.wrap .i64 (v1 + 1)) v2 v3 v4 v5 v6 v7 v8 v9 v10 v11 v12 v13)))
 else (reject_Check.l1 n false v8 (v8.length : Int) 0 v2 v3 v4 v5 v6 v7 v8 v9 v10 v11 v12 v13)) := by kernel_rfl
theorem reject_Check.l1_eq n v0 v1 v2 v3 v4 v5 v6 v7 v8 v9 v10 v11 v12 v13 v14 v15 : reject_Check.l1 (n + 1) v0 v1 v2 v3 v4 v5 v6 v7 v8 v9 v10 v11 v12 v13 v14 v15 =
 (if v3 < v2 then ((lget v1 v3).bind fun b3 =>
 ((reject_code.f (((v4, v5, v6), (v7, v8), v9, v10), v3, v11, v12, v13, v14, v15)).bind fun b4 =>
 (if ¬b4 = 0 then (some ((b4, 3, v3)))
 else (if v0 = true then (reject_Check.l1 n true v1 v2 (IntKind.wrap .i64 (v3 + 1)) v4 v5 v6 v7 v8 v9 v10 v11 v12 v13 v14 v15)
 else (reject_Check.l1 n (decide (b3.1 = 0)) v1 v2 (IntKind.wrap .i64 (v3 + 1)) v4 v5 v6 v7 v8 v9 v10 v11 v12 v13 v14 v15)))))
 else (if ¬v0 = true then (some ((15, 3, (v10.length : Int))))
 else (some ((0, 0, 0))))) := by kernel_rfl
theorem reject_Check.eq (n : Nat) (a0 a1 : Int) (a2 : List z5) (a3 : List zP) (a4 : List zR) (a5 : List Int) (a6 : List zE) : call reject_Check.C Tryz.f113 reject_Check.code reject_Check.sg reject_Check.rs n ((a0, (a1, a2)), ((a3, a4), (a5, a6))) =
 ((schema_Check.f (a0, a1, a2)).bind fun b0 =>
 (if ¬b0.1 = 0 then (some ((1, 1, 0)))
 else ((schema_Find.f ((a0, a1, a2), 39)).bind fun b1 =>
 (if ¬b1.2 = true then (some ((9, 1, 1)))
 else (reject_Check.l0 n (a5.length : Int) 0 a0 a1 a2 a3 a4 a5 a6 b1.1.1 b1.1.2.1 b1.1.2.2.1 b1.1.2.2.2.1 b1.1.2.2.2.2))))) := by kernel_rfl
def reject_Check.f (x : RJ) : Option (Int × Int × Int) := if x.1.2.2.length ≤ 1000000 ∧ x.2.2.1.length ≤ 1000000 ∧ okM x.2.2.2 then some (rejE x) else none
theorem reject_Check (x : RJ) (h : x.1.2.2.length ≤ 1000000 ∧ x.2.2.1.length ≤ 1000000 ∧ okM x.2.2.2) : reject_Check.f x = some (rejE x) := if_pos h
theorem reject_Check_l1 (q1 q2 : Int) (s : List S5) (c1 : List (ByteArray × ByteArray)) (c2 : List (Int × Int × Int × ByteArray × List (ByteArray × ByteArray))) (e : List Int) (l : List V) (hl : okM l) (p1 p2 p3 p4 p5 : Int) : ∀ (m : List V) (k i : Nat), l.drop i = m → (∀ v ∈ m, v.2.size ≤ 1000000000000) → m.length < k →
  reject_Check.l1 k (decide ((0 : Int) ∈ (l.take i).map Prod.fst)) l (l.length : Int) (i : Int) q1 q2 s c1 c2 e l p1 p2 p3 p4 p5 = some (match codesE (p1, p2, p3, p4, p5) (l.take i) i m with
   | some r => r
   | none => if (0 : Int) ∈ l.map Prod.fst then (0, 0, 0) else (15, 3, (l.length : Int)))
 | [], k, i, hd, hv, hk => by
  obtain ⟨k, rfl⟩ : ∃ m, k = m + 1 := ⟨k - 1, by omega⟩
  have := dropn hd
  rw [reject_Check.l1_eq, if_neg (by omega), List.take_of_length_le this, codesE]
  by_cases c : (0 : Int) ∈ l.map Prod.fst
  ·rw [if_neg (not_not_intro (decide_eq_true c))]
   dsimp only
   rw [if_pos c]
  ·rw [if_pos (by simpa using c)]
   dsimp only
   rw [if_neg c]
 | v :: m, k, i, hd, hv, hk => by
  obtain ⟨k, rfl⟩ : ∃ m, k = m + 1 := ⟨k - 1, by omega⟩
  obtain ⟨h1, h2, h3, h4⟩ := dropc hd
  have hk' : m.length < k := by simp at hk; omega
  have hl1 := hl.1
  have ih := reject_Check_l1 q1 q2 s c1 c2 e l hl p1 p2 p3 p4 p5 m k (i + 1) h2 (fun w hw => hv w (List.mem_cons_of_mem _ hw)) hk'
  rw [take_snoc hd, List.map_append, List.map_cons, List.map_nil] at ih
  rw [reject_Check.l1_eq, if_pos (by omega), h4, Option.bind_some, reject_code (q1, q2, s) (c1, c2) e l (by omega) (p1, p2, p3, p4, p5) v (hv v (List.mem_cons_self ..)) m i hd, Option.bind_some, wrap_succ (by omega), codesE]
  by_cases k1 : v.1 < 0 ∨ 16 < v.1
  ·rw [if_pos k1, if_pos k1]; rfl
  rw [if_neg k1, if_neg k1]
  by_cases k2 : v.1 ∈ (l.take i).map Prod.fst
  ·rw [if_pos k2, if_pos k2]; rfl
  rw [if_neg k2, if_neg k2]
  by_cases k3 : specA (p1, p2, p3, p4, p5) (bl v.2) = 0
  ·rw [if_neg (not_not_intro k3), if_neg (not_not_intro k3), ← ih]
   by_cases k4 : (0 : Int) ∈ (l.take i).map Prod.fst
   ·rw [if_pos (decide_eq_true k4), decide_eq_true (show (0 : Int) ∈ (l.take i).map Prod.fst ++ [v.1] from List.mem_append.2 (.inl k4))]
   ·rw [if_neg (by simpa using k4)]
    congr 1
    refine decide_eq_decide.2 ?_
    rw [List.mem_append, List.mem_singleton]
    exact ⟨fun h => .inr h.symm, fun h => h.elim (fun h => absurd h k4) Eq.symm⟩
  ·rw [if_pos k3, if_pos k3]
theorem reject_Check_l0 (q1 q2 : Int) (s : List S5) (hs : s.length ≤ 1000000) (c1 : List (ByteArray × ByteArray)) (c2 : List (Int × Int × Int × ByteArray × List (ByteArray × ByteArray))) (e : List Int) (he : e.length ≤ 1000000) (l : List V) (p1 p2 p3 p4 p5 : Int) : ∀ (m : List Int) (k i : Nat), e.drop i = m →
  reject_Check.l0 (k + m.length + 1) (e.length : Int) (i : Int) q1 q2 s c1 c2 e l p1 p2 p3 p4 p5 = match echoE s (e.take i) i m with
   | some r => some r
   | none => reject_Check.l1 k false l (l.length : Int) 0 q1 q2 s c1 c2 e l p1 p2 p3 p4 p5
 | [], k, i, hd => by
  have := dropn hd
  rw [reject_Check.l0_eq, if_neg (by omega)]; rfl
 | x :: m, k, i, hd => by
  obtain ⟨h1, h2, h3, h4⟩ := dropc hd
  have ih := reject_Check_l0 q1 q2 s hs c1 c2 e he l p1 p2 p3 p4 p5 m k (i + 1) h2
  rw [take_snoc hd] at ih
  rw [reject_Check.l0_eq, if_pos (by omega), reject_echo q1 q2 s hs (c1, c2) e he l x m i hd, Option.bind_some, wrap_succ (by omega), List.length_cons, ← Nat.add_assoc k m.length 1, ih, echoE]
  by_cases k1 : (findS x s).2 = false
  ·rw [if_pos k1, if_pos k1]; rfl
  rw [if_neg k1, if_neg k1]
  by_cases k2 : x = 39
  ·rw [if_pos k2, if_pos k2]; rfl
  rw [if_neg k2, if_neg k2]
  by_cases k3 : x ∈ e.take i
  ·rw [if_pos k3, if_pos k3]; rfl
  ·rw [if_neg k3, if_neg k3, if_neg (by simp)]
noncomputable def reject_Check.c : Con := ⟨113, reject_Check.sg, reject_Check.rs, reject_Check.f⟩
theorem reject_Check.con : ConOk Tryz.prog reject_Check.c := walked (C := reject_Check.C) rfl (by kernel_rfl) (by kernel_rfl) (by kernel_rfl) rfl ⟨schema_Find.con, schema_Check.con, reject_echo.con, reject_code.con, trivial⟩ fun ⟨⟨q1, q2, s⟩, ⟨c1, c2⟩, e, l⟩ y h => by
 have h : reject_Check.f ((q1, q2, s), (c1, c2), e, l) = some y := h
 unfold reject_Check.f at h
 split at h
 ·rename_i hc
  obtain ⟨hs, he, hl⟩ := hc
  dsimp only at hs he hl
  refine ⟨(List.length (α := V) l + 1) + List.length (α := Int) e + 1, ?_⟩
  rw [reject_Check.eq, schema_Check q1 q2 s hs, Option.bind_some, schema_Find q1 q2 s hs, Option.bind_some, ← h]
  unfold rejE
  dsimp only
  by_cases k1 : (schemaE (q1, q2, s)).1 = 0
  ·rw [if_neg (not_not_intro k1), if_neg (not_not_intro k1)]
   by_cases k2 : (findS 39 s).2 = false
   ·rw [if_pos (by simp [k2]), if_pos k2]
   rw [if_neg (by simpa using k2), if_neg k2]
   have r0 := reject_Check_l0 q1 q2 s hs c1 c2 e he l (findS 39 s).1.1 (findS 39 s).1.2.1 (findS 39 s).1.2.2.1 (findS 39 s).1.2.2.2.1 (findS 39 s).1.2.2.2.2 e (List.length (α := V) l + 1) 0 rfl
   have r1 := reject_Check_l1 q1 q2 s c1 c2 e l hl (findS 39 s).1.1 (findS 39 s).1.2.1 (findS 39 s).1.2.2.1 (findS 39 s).1.2.2.2.1 (findS 39 s).1.2.2.2.2 l (List.length (α := V) l + 1) 0 rfl hl.2 (by omega)
   rw [List.take_zero] at r0 r1
   refine r0.trans ?_
   cases echoE s [] 0 e with
   | some r => rfl
   | none => exact r1
  ·rw [if_pos k1, if_pos k1]
 ·cases h
end Go.Proofs.YtkaihbkfobiejaaGreatDoor.Xe
