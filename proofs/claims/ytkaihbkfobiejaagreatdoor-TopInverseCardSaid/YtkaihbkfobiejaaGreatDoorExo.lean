/- What the program's functions that turn maps answer. -/
import Derived.Test.YtkaihbkfobiejaaGreatDoorNgi
import Derived.Test.YtkaihbkfobiejaaGreatDoorExm
namespace Go.Proofs.YtkaihbkfobiejaaGreatDoor.Xe
open Go Go.RowKit Go.Proofs.YtkaihbkfobiejaaGreatDoor.Sp
set_option linter.unusedVariables false
set_option linter.unusedSimpArgs false
set_option maxRecDepth 100000
/-! ### codes_Turn -/
@[reducible] def codes_Turn.sg : List Shp := [.v (.sl (.pair (.str) (.str)))]
@[reducible] def codes_Turn.rs : Rs := .one (.v (.sl (.pair (.str) (.str))))
@[reducible] noncomputable def codes_Turn.code : Code := Tryz.f65.body.getD .skip
noncomputable def codes_Turn.C : Ctx := ⟨tab, [], [], ⟨[(3, [3, 9, 10, 11], 0)], []⟩⟩
noncomputable def codes_Turn.l0 (n : Nat) (v0 : List ((ByteArray × ByteArray))) (v1 : List ((ByteArray × ByteArray))) (v2 : Int) (v3 : Int) : Option (List ((ByteArray × ByteArray))) := run codes_Turn.C (finOf codes_Turn.C Tryz.f65 codes_Turn.rs) n (todoAt 3 codes_Turn.code) ⟨[.junk, .junk, .junk, .sl (some 0) (.pair (.str) (.str)) v0, .junk, .junk, .junk, .junk, .junk, .sl none (.pair (.str) (.str)) v1, .int .i64 v2, .int .i64 v3, .junk, .junk, .junk, .junk, .junk, .junk, .junk, .junk, .junk, .junk, .junk, .junk, .junk], [], [true]⟩
-- the loop at region 3
theorem codes_Turn.l0_eq (n : Nat) (v0 : List ((ByteArray × ByteArray))) (v1 : List ((ByteArray × ByteArray))) (v2 : Int) (v3 : Int) : codes_Turn.l0 (n + 1) v0 v1 v2 v3 =
  (if v3 < v2 then ((lget v1 v3).bind fun b0 =>
   ((lcat 32 v0 [(Prod.snd b0, Prod.fst b0)]).bind fun b1 =>
   (codes_Turn.l0 n b1 v1 v2 (IntKind.wrap IntKind.i64 (v3 + 1)))))
  else (some v0)) := by kernel_rfl
theorem codes_Turn.eq (n : Nat) (a0 : List ((ByteArray × ByteArray))) : call codes_Turn.C Tryz.f65 codes_Turn.code codes_Turn.sg codes_Turn.rs n a0 =
  (if (0 : Int) = 0 ∧ 0 ≤ (↑(List.length a0) : Int) ∧ 32 * (↑(List.length a0) : Int) ≤ 281474976710656 ∧ (↑(List.length a0) : Int) ≤ 9223372036854775807 then (codes_Turn.l0 n [] a0 ((↑(List.length a0) : Int)) 0)
  else none) := by kernel_rfl
noncomputable def codes_Turn.f (l : List PB) : Option (List PB) := if okP l then some (turnP l) else none
theorem codes_Turn (l : List PB) (hl : okP l) : codes_Turn.f l = some (turnP l) := if_pos hl
theorem codes_Turn_l (l : List PB) (hl : okP l) : ∀ (m o : List PB) (k i : Nat), l.drop i = m → o.length ≤ i → m.length < k → codes_Turn.l0 k o l (l.length : Int) (i : Int) = some (o ++ turnP m)
  | [], o, k, i, hd, ho, hk => by
    obtain ⟨k, rfl⟩ : ∃ m, k = m + 1 := ⟨k - 1, by omega⟩
    have := dropn hd
    rw [codes_Turn.l0_eq, if_neg (by omega)]
    unfold turnP; simp
  | p :: m, o, k, i, hd, ho, hk => by
    obtain ⟨k, rfl⟩ : ∃ m, k = m + 1 := ⟨k - 1, by omega⟩
    obtain ⟨h1, h2, h3, h4⟩ := dropc hd
    have hk' : m.length < k := by simp at hk; omega
    have hl1 := hl.1
    rw [codes_Turn.l0_eq, if_pos (by omega), h4, Option.bind_some, lcat_ok _ _ _ (by simp only [List.length_cons, List.length_nil]; omega), Option.bind_some, wrap_succ (by omega), codes_Turn_l l hl m _ k (i + 1) h2 (by rw [List.length_append, List.length_singleton]; omega) hk']
    unfold turnP
    rw [List.map_cons, List.append_assoc]; rfl
noncomputable def codes_Turn.c : Con := ⟨65, codes_Turn.sg, codes_Turn.rs, codes_Turn.f⟩
theorem codes_Turn.con : ConOk Tryz.prog codes_Turn.c := walked (C := codes_Turn.C) rfl (by kernel_rfl) (by kernel_rfl) (by kernel_rfl) rfl trivial fun l y h => by
  have h : codes_Turn.f l = some y := h
  unfold codes_Turn.f at h
  split at h
  · rename_i hc
    have hl1 := hc.1
    refine ⟨l.length + 1, ?_⟩
    rw [codes_Turn.eq, ← h, if_pos ⟨rfl, by omega, by omega, by omega⟩]
    exact codes_Turn_l l hc l [] _ 0 rfl (by simp) (by omega)
  · cases h
/-! ### codes_Bijective -/
@[reducible] def codes_Bijective.sg : List Shp := [.v (.sl (.pair (.str) (.str)))]
@[reducible] def codes_Bijective.rs : Rs := .one (.v (.bool))
@[reducible] noncomputable def codes_Bijective.code : Code := Tryz.f59.body.getD .skip
noncomputable def codes_Bijective.C : Ctx := ⟨tab, [codes_Turn.c, codes_Check.c], [], ⟨[], []⟩⟩
theorem codes_Bijective.eq (n : Nat) (a0 : List ((ByteArray × ByteArray))) : call codes_Bijective.C Tryz.f59 codes_Bijective.code codes_Bijective.sg codes_Bijective.rs n a0 =
  ((codes_Check.f a0).bind fun b0 =>
  ((codes_Turn.f a0).bind fun b1 =>
  ((codes_Check.f b1).bind fun b2 =>
  (if Prod.fst b0 = 0 then (some (decide (Prod.fst b2 = 0)))
  else (some false))))) := by kernel_rfl
noncomputable def codes_Bijective.f : El (sgTy codes_Bijective.sg) → Option (El codes_Bijective.rs.ty) := fun x => match x with
  | a0 =>
  ((codes_Check.f a0).bind fun b0 =>
  ((codes_Turn.f a0).bind fun b1 =>
  ((codes_Check.f b1).bind fun b2 =>
  (if Prod.fst b0 = 0 then (some (decide (Prod.fst b2 = 0)))
  else (some false)))))
noncomputable def codes_Bijective.c : Con := ⟨59, codes_Bijective.sg, codes_Bijective.rs, codes_Bijective.f⟩
theorem codes_Bijective.con : ConOk Tryz.prog codes_Bijective.c := walked (C := codes_Bijective.C) rfl (by kernel_rfl) (by kernel_rfl) (by kernel_rfl) rfl ⟨codes_Turn.con, codes_Check.con, trivial⟩ fun a0 y h => ⟨0, (codes_Bijective.eq 0 a0).trans h⟩
theorem codes_Bijective (l : List PB) (hl : okP l) : codes_Bijective.f l = some (bijP l) := by
  simp only [codes_Bijective.f]
  rw [codes_Check l hl, Option.bind_some, codes_Turn l hl, Option.bind_some, codes_Check _ hl.turn, Option.bind_some]
  unfold bijP
  by_cases c : (pairsE l).1 = 0
  · rw [if_pos c, decide_eq_true c, Bool.true_and]
  · rw [if_neg c, decide_eq_false c]; rfl
/-! ### invert_undone -/
@[reducible] def invert_undone.sg : List Shp := [.a (.pair (.int .i64) (.pair (.int .i64) (.pair (.int .i64) (.pair (.str) (.sl (.pair (.str) (.str))))))), .a (.pair (.int .i64) (.pair (.int .i64) (.sl (.pair (.int .i64) (.pair (.int .i64) (.pair (.int .i64) (.pair (.int .i64) (.int .i64)))))))), .a (.pair (.int .i64) (.pair (.int .i64) (.sl (.pair (.int .i64) (.pair (.int .i64) (.pair (.int .i64) (.pair (.int .i64) (.int .i64))))))))]
@[reducible] def invert_undone.rs : Rs := .one (.v (.bool))
@[reducible] noncomputable def invert_undone.code : Code := Tryz.f60.body.getD .skip
noncomputable def invert_undone.C : Ctx := ⟨tab, [schema_Find.c, codes_Bijective.c, spec_Wider.c], [], ⟨[], []⟩⟩
theorem invert_undone.eq (n : Nat) (a0 : Int) (a1 : Int) (a2 : Int) (a3 : ByteArray) (a4 : List ((ByteArray × ByteArray))) (a5 : Int) (a6 : Int) (a7 : List ((Int × (Int × (Int × (Int × Int)))))) (a8 : Int) (a9 : Int) (a10 : List ((Int × (Int × (Int × (Int × Int)))))) : call invert_undone.C Tryz.f60 invert_undone.code invert_undone.sg invert_undone.rs n ((a0, (a1, (a2, (a3, a4)))), ((a5, (a6, a7)), (a8, (a9, a10)))) =
  ((schema_Find.f ((a5, a6, a7), a1)).bind fun b0 =>
  ((schema_Find.f ((a8, a9, a10), a2)).bind fun b1 =>
  (if a0 = 1 then ((spec_Wider.f (Prod.fst b0, Prod.fst b1)).bind fun b2 =>
   (if b2 = true then ((spec_Wider.f (Prod.fst b1, Prod.fst b0)).bind fun b3 =>
    (some (decide (b3 = true))))
   else (some false)))
  else (if a0 = 4 then (some (decide (Prod.fst (Prod.snd (Prod.snd (Prod.snd (Prod.fst b1)))) ≥ Prod.fst (Prod.snd (Prod.snd (Prod.snd (Prod.fst b0)))))))
   else (if a0 = 5 then ((codes_Bijective.f a4).bind fun b4 =>
     (some (decide (b4 = true))))
    else (some false)))))) := by kernel_rfl
noncomputable def invert_undone.f : El (sgTy invert_undone.sg) → Option (El invert_undone.rs.ty) := fun x => match x with
  | ((a0, (a1, (a2, (a3, a4)))), ((a5, (a6, a7)), (a8, (a9, a10)))) =>
  ((schema_Find.f ((a5, a6, a7), a1)).bind fun b0 =>
  ((schema_Find.f ((a8, a9, a10), a2)).bind fun b1 =>
  (if a0 = 1 then ((spec_Wider.f (Prod.fst b0, Prod.fst b1)).bind fun b2 =>
   (if b2 = true then ((spec_Wider.f (Prod.fst b1, Prod.fst b0)).bind fun b3 =>
    (some (decide (b3 = true))))
   else (some false)))
  else (if a0 = 4 then (some (decide (Prod.fst (Prod.snd (Prod.snd (Prod.snd (Prod.fst b1)))) ≥ Prod.fst (Prod.snd (Prod.snd (Prod.snd (Prod.fst b0)))))))
   else (if a0 = 5 then ((codes_Bijective.f a4).bind fun b4 =>
     (some (decide (b4 = true))))
    else (some false))))))
noncomputable def invert_undone.c : Con := ⟨60, invert_undone.sg, invert_undone.rs, invert_undone.f⟩
theorem invert_undone.con : ConOk Tryz.prog invert_undone.c := walked (C := invert_undone.C) rfl (by kernel_rfl) (by kernel_rfl) (by kernel_rfl) rfl ⟨schema_Find.con, codes_Bijective.con, spec_Wider.con, trivial⟩ fun ⟨⟨a0, ⟨a1, ⟨a2, ⟨a3, a4⟩⟩⟩⟩, ⟨⟨a5, ⟨a6, a7⟩⟩, ⟨a8, ⟨a9, a10⟩⟩⟩⟩ y h => ⟨0, (invert_undone.eq 0 a0 a1 a2 a3 a4 a5 a6 a7 a8 a9 a10).trans h⟩
theorem invert_undone (r : RU) (hr : okR r) (x y z w : Int) (a b : List S5) (ha : a.length ≤ 1000000) (hb : b.length ≤ 1000000) : invert_undone.f (r, (x, y, a), (z, w, b)) = some (undoneE r a b) := by
  obtain ⟨r0, r1, r2, r3, r4⟩ := r
  have hr2 : okP r4 := hr.2
  simp only [invert_undone.f]
  rw [schema_Find x y a ha, Option.bind_some, schema_Find z w b hb, Option.bind_some]
  unfold undoneE
  dsimp only
  by_cases k1 : r0 = 1
  · rw [if_pos k1, if_pos k1, spec_Wider, Option.bind_some]
    cases wider (findS r1 a).1 (findS r2 b).1
    · rfl
    · rw [if_pos rfl, spec_Wider, Option.bind_some]
      cases wider (findS r2 b).1 (findS r1 a).1 <;> rfl
  rw [if_neg k1, if_neg k1]
  by_cases k4 : r0 = 4
  · rw [if_pos k4, if_pos k4]
  rw [if_neg k4, if_neg k4]
  by_cases k5 : r0 = 5
  · rw [if_pos k5, if_pos k5, codes_Bijective r4 hr2, Option.bind_some]
    cases bijP r4 <;> rfl
  · rw [if_neg k5, if_neg k5]
/-! ### invert_Check -/
@[reducible] def invert_Check.sg : List Shp := [.a (.pair (.sl (.pair (.str) (.str))) (.sl (.pair (.int .i64) (.pair (.int .i64) (.pair (.int .i64) (.pair (.str) (.sl (.pair (.str) (.str))))))))), .a (.pair (.int .i64) (.pair (.int .i64) (.sl (.pair (.int .i64) (.pair (.int .i64) (.pair (.int .i64) (.pair (.int .i64) (.int .i64)))))))), .a (.pair (.int .i64) (.pair (.int .i64) (.sl (.pair (.int .i64) (.pair (.int .i64) (.pair (.int .i64) (.pair (.int .i64) (.int .i64))))))))]
@[reducible] def invert_Check.rs : Rs := .one (.v (.bool))
@[reducible] noncomputable def invert_Check.code : Code := Tryz.f24.body.getD .skip
noncomputable def invert_Check.C : Ctx := ⟨tab, [xlate_Check.c, codes_Bijective.c, invert_undone.c], [], ⟨[(5, [4, 5, 29, 30, 31], 3)], []⟩⟩
noncomputable def invert_Check.l0 (n : Nat) (v0 : List ((Int × (Int × (Int × (ByteArray × List ((ByteArray × ByteArray)))))))) (v1 : Int) (v2 : Int) (v3 : List ((ByteArray × ByteArray))) (v4 : List ((Int × (Int × (Int × (ByteArray × List ((ByteArray × ByteArray)))))))) (v5 : Int) (v6 : Int) (v7 : List ((Int × (Int × (Int × (Int × Int)))))) (v8 : Int) (v9 : Int) (v10 : List ((Int × (Int × (Int × (Int × Int)))))) : Option Bool := run invert_Check.C (finOf invert_Check.C Tryz.f24 invert_Check.rs) n (todoAt 5 invert_Check.code) ⟨[.junk, .junk, .junk, .junk, .ptr 1 0, .ptr 2 0, .junk, .junk, .junk, .junk, .junk, .junk, .junk, .junk, .junk, .junk, .junk, .junk, .junk, .junk, .junk, .junk, .junk, .junk, .junk, .junk, .junk, .junk, .junk, .sl none (.pair (.int .i64) (.pair (.int .i64) (.pair (.int .i64) (.pair (.str) (.sl (.pair (.str) (.str))))))) v0, .int .i64 v1, .int .i64 v2, .junk, .junk, .junk, .junk, .junk, .junk, .junk, .junk, .junk], [[.sl none (.pair (.str) (.str)) v3, .sl none (.pair (.int .i64) (.pair (.int .i64) (.pair (.int .i64) (.pair (.str) (.sl (.pair (.str) (.str))))))) v4], [.int .i64 v5, .int .i64 v6, .sl none (.pair (.int .i64) (.pair (.int .i64) (.pair (.int .i64) (.pair (.int .i64) (.int .i64))))) v7], [.int .i64 v8, .int .i64 v9, .sl none (.pair (.int .i64) (.pair (.int .i64) (.pair (.int .i64) (.pair (.int .i64) (.int .i64))))) v10]], []⟩
-- the loop at region 5
theorem invert_Check.l0_eq (n : Nat) (v0 : List ((Int × (Int × (Int × (ByteArray × List ((ByteArray × ByteArray)))))))) (v1 : Int) (v2 : Int) (v3 : List ((ByteArray × ByteArray))) (v4 : List ((Int × (Int × (Int × (ByteArray × List ((ByteArray × ByteArray)))))))) (v5 : Int) (v6 : Int) (v7 : List ((Int × (Int × (Int × (Int × Int)))))) (v8 : Int) (v9 : Int) (v10 : List ((Int × (Int × (Int × (Int × Int)))))) : invert_Check.l0 (n + 1) v0 v1 v2 v3 v4 v5 v6 v7 v8 v9 v10 =
  (if v2 < v1 then ((lget v0 v2).bind fun b2 =>
   ((invert_undone.f (b2, (v5, v6, v7), v8, v9, v10)).bind fun b3 =>
   (if ¬b3 = true then (some false)
   else (invert_Check.l0 n v0 v1 (IntKind.wrap IntKind.i64 (v2 + 1)) v3 v4 v5 v6 v7 v8 v9 v10))))
  else (some true)) := by kernel_rfl
theorem invert_Check.eq (n : Nat) (a0 : List ((ByteArray × ByteArray))) (a1 : List ((Int × (Int × (Int × (ByteArray × List ((ByteArray × ByteArray)))))))) (a2 : Int) (a3 : Int) (a4 : List ((Int × (Int × (Int × (Int × Int)))))) (a5 : Int) (a6 : Int) (a7 : List ((Int × (Int × (Int × (Int × Int)))))) : call invert_Check.C Tryz.f24 invert_Check.code invert_Check.sg invert_Check.rs n ((a0, a1), ((a2, (a3, a4)), (a5, (a6, a7)))) =
  ((xlate_Check.f ((a0, a1), (a2, a3, a4), a5, a6, a7)).bind fun b0 =>
  (if ¬Prod.fst b0 = 0 then (some false)
  else ((codes_Bijective.f a0).bind fun b1 =>
   (if ¬b1 = true then (some false)
   else (invert_Check.l0 n a1 ((↑(List.length a1) : Int)) 0 a0 a1 a2 a3 a4 a5 a6 a7))))) := by kernel_rfl
noncomputable def invert_Check.f (x : RC × SC × SC) : Option Bool := if okC x.1 ∧ x.2.1.2.2.length ≤ 1000000 ∧ x.2.2.2.2.length ≤ 1000000 then some (invE x.1 x.2.1 x.2.2) else none
theorem invert_Check (m : RC) (hm : okC m) (a b : SC) (ha : a.2.2.length ≤ 1000000) (hb : b.2.2.length ≤ 1000000) : invert_Check.f (m, a, b) = some (invE m a b) := if_pos ⟨hm, ha, hb⟩
theorem invert_Check_l (p : List PB) (l : List RU) (hl : l.length ≤ 100000) (hr : ∀ r ∈ l, okR r) (x v y w : Int) (a b : List S5) (ha : a.length ≤ 1000000) (hb : b.length ≤ 1000000) : ∀ (m : List RU) (k i : Nat), l.drop i = m → m.length < k →
    invert_Check.l0 k l (l.length : Int) (i : Int) p l x v a y w b = some (m.all fun r => undoneE r a b)
  | [], k, i, hd, hk => by
    obtain ⟨k, rfl⟩ : ∃ m, k = m + 1 := ⟨k - 1, by omega⟩
    have := dropn hd
    rw [invert_Check.l0_eq, if_neg (by omega)]; rfl
  | r :: m, k, i, hd, hk => by
    obtain ⟨k, rfl⟩ : ∃ m, k = m + 1 := ⟨k - 1, by omega⟩
    obtain ⟨h1, h2, h3, h4⟩ := dropc hd
    have hk' : m.length < k := by simp at hk; omega
    have hri := hr r (by have := List.drop_subset i l (a := r); rw [hd] at this; exact this (List.mem_cons_self ..))
    rw [invert_Check.l0_eq, if_pos (by omega), h4, Option.bind_some, invert_undone r hri x v y w a b ha hb, Option.bind_some, wrap_succ (by omega), invert_Check_l p l hl hr x v y w a b ha hb m k (i + 1) h2 hk', List.all_cons]
    cases undoneE r a b <;> rfl
noncomputable def invert_Check.c : Con := ⟨24, invert_Check.sg, invert_Check.rs, invert_Check.f⟩
theorem invert_Check.con : ConOk Tryz.prog invert_Check.c := walked (C := invert_Check.C) rfl (by kernel_rfl) (by kernel_rfl) (by kernel_rfl) rfl ⟨xlate_Check.con, codes_Bijective.con, invert_undone.con, trivial⟩ fun ⟨⟨p, l⟩, ⟨x, v, a⟩, ⟨y, w, b⟩⟩ z h => by
  have h : invert_Check.f ((p, l), (x, v, a), (y, w, b)) = some z := h
  unfold invert_Check.f at h
  split at h
  · rename_i hc
    refine ⟨l.length + 1, ?_⟩
    rw [invert_Check.eq, ← h, xlate_Check (p, l) hc.1 _ _ hc.2.1 hc.2.2, Option.bind_some]
    unfold invE
    dsimp only
    by_cases c1 : ¬ (mapE (p, l) (x, v, a) (y, w, b)).1 = 0
    · rw [if_pos c1, decide_eq_false c1]; rfl
    rw [if_neg c1, decide_eq_true (Decidable.not_not.1 c1), Bool.true_and, codes_Bijective p hc.1.1, Option.bind_some]
    cases bijP p
    · rfl
    · rw [if_neg (by simp), Bool.true_and]
      exact invert_Check_l p l hc.1.2.1 hc.1.2.2 x v y w a b hc.2.1 hc.2.2 l _ 0 rfl (by omega)
  · cases h
/-! ### invert_Turn -/
@[reducible] def invert_Turn.sg : List Shp := [.a (.pair (.sl (.pair (.str) (.str))) (.sl (.pair (.int .i64) (.pair (.int .i64) (.pair (.int .i64) (.pair (.str) (.sl (.pair (.str) (.str)))))))))]
@[reducible] def invert_Turn.rs : Rs := .one (.a (.pair (.sl (.pair (.str) (.str))) (.sl (.pair (.int .i64) (.pair (.int .i64) (.pair (.int .i64) (.pair (.str) (.sl (.pair (.str) (.str))))))))))
@[reducible] noncomputable def invert_Turn.code : Code := Tryz.f26.body.getD .skip
noncomputable def invert_Turn.C : Ctx := ⟨tab, [codes_Turn.c], [], ⟨[(3, [2, 3, 11, 12, 13], 3)], []⟩⟩
noncomputable def invert_Turn.l0 (n : Nat) (v0 : List ((Int × (Int × (Int × (ByteArray × List ((ByteArray × ByteArray)))))))) (v1 : Int) (v2 : Int) (v3 : List ((ByteArray × ByteArray))) (v4 : List ((Int × (Int × (Int × (ByteArray × List ((ByteArray × ByteArray)))))))) (v5 : List ((ByteArray × ByteArray))) : Option ((List ((ByteArray × ByteArray)) × List ((Int × (Int × (Int × (ByteArray × List ((ByteArray × ByteArray))))))))) := run invert_Turn.C (finOf invert_Turn.C Tryz.f26 invert_Turn.rs) n (todoAt 3 invert_Turn.code) ⟨[.junk, .junk, .ptr 1 0, .ptr 2 0, .junk, .junk, .junk, .junk, .junk, .junk, .junk, .sl none (.pair (.int .i64) (.pair (.int .i64) (.pair (.int .i64) (.pair (.str) (.sl (.pair (.str) (.str))))))) v0, .int .i64 v1, .int .i64 v2, .junk, .junk, .junk, .junk, .junk, .junk, .junk, .junk, .junk, .junk, .junk, .junk, .junk, .junk, .junk, .junk, .junk, .junk, .junk, .junk, .junk, .junk], [[.sl none (.pair (.str) (.str)) v3, .sl none (.pair (.int .i64) (.pair (.int .i64) (.pair (.int .i64) (.pair (.str) (.sl (.pair (.str) (.str))))))) v4], [.nilsl, .nilsl], [.sl none (.pair (.str) (.str)) v5, .nilsl]], []⟩
noncomputable def invert_Turn.l1 (n : Nat) (v0 : List ((Int × (Int × (Int × (ByteArray × List ((ByteArray × ByteArray)))))))) (v1 : Int) (v2 : Int) (v3 : List ((ByteArray × ByteArray))) (v4 : List ((Int × (Int × (Int × (ByteArray × List ((ByteArray × ByteArray)))))))) (v5 : List ((ByteArray × ByteArray))) (v6 : List ((Int × (Int × (Int × (ByteArray × List ((ByteArray × ByteArray)))))))) : Option ((List ((ByteArray × ByteArray)) × List ((Int × (Int × (Int × (ByteArray × List ((ByteArray × ByteArray))))))))) := run invert_Turn.C (finOf invert_Turn.C Tryz.f26 invert_Turn.rs) n (todoAt 3 invert_Turn.code) ⟨[.junk, .junk, .ptr 1 0, .ptr 2 0, .junk, .junk, .junk, .junk, .junk, .junk, .junk, .sl none (.pair (.int .i64) (.pair (.int .i64) (.pair (.int .i64) (.pair (.str) (.sl (.pair (.str) (.str))))))) v0, .int .i64 v1, .int .i64 v2, .junk, .junk, .junk, .junk, .junk, .junk, .junk, .junk, .junk, .junk, .junk, .junk, .junk, .junk, .junk, .junk, .junk, .junk, .junk, .junk, .junk, .junk], [[.sl none (.pair (.str) (.str)) v3, .sl none (.pair (.int .i64) (.pair (.int .i64) (.pair (.int .i64) (.pair (.str) (.sl (.pair (.str) (.str))))))) v4], [.nilsl, .nilsl], [.sl none (.pair (.str) (.str)) v5, .sl (some 0) (.pair (.int .i64) (.pair (.int .i64) (.pair (.int .i64) (.pair (.str) (.sl (.pair (.str) (.str))))))) v6]], [true]⟩
-- the loop at region 3
theorem invert_Turn.l0_eq (n : Nat) (v0 : List ((Int × (Int × (Int × (ByteArray × List ((ByteArray × ByteArray)))))))) (v1 : Int) (v2 : Int) (v3 : List ((ByteArray × ByteArray))) (v4 : List ((Int × (Int × (Int × (ByteArray × List ((ByteArray × ByteArray)))))))) (v5 : List ((ByteArray × ByteArray))) : invert_Turn.l0 (n + 1) v0 v1 v2 v3 v4 v5 =
  (if v2 < v1 then ((lget v0 v2).bind fun b1 =>
   ((codes_Turn.f (Prod.snd (Prod.snd (Prod.snd (Prod.snd b1))))).bind fun b2 =>
   ((lcat 64 [] [(Prod.fst b1, Prod.fst (Prod.snd (Prod.snd b1)), Prod.fst (Prod.snd b1), Prod.fst (Prod.snd (Prod.snd (Prod.snd b1))), b2)]).bind fun b3 =>
   (invert_Turn.l1 n v0 v1 (IntKind.wrap IntKind.i64 (v2 + 1)) v3 v4 v5 b3))))
  else (some ((v5, [])))) := by kernel_rfl
-- the loop at region 3
theorem invert_Turn.l1_eq (n : Nat) (v0 : List ((Int × (Int × (Int × (ByteArray × List ((ByteArray × ByteArray)))))))) (v1 : Int) (v2 : Int) (v3 : List ((ByteArray × ByteArray))) (v4 : List ((Int × (Int × (Int × (ByteArray × List ((ByteArray × ByteArray)))))))) (v5 : List ((ByteArray × ByteArray))) (v6 : List ((Int × (Int × (Int × (ByteArray × List ((ByteArray × ByteArray)))))))) : invert_Turn.l1 (n + 1) v0 v1 v2 v3 v4 v5 v6 =
  (if v2 < v1 then ((lget v0 v2).bind fun b4 =>
   ((codes_Turn.f (Prod.snd (Prod.snd (Prod.snd (Prod.snd b4))))).bind fun b5 =>
   ((lcat 64 v6 [(Prod.fst b4, Prod.fst (Prod.snd (Prod.snd b4)), Prod.fst (Prod.snd b4), Prod.fst (Prod.snd (Prod.snd (Prod.snd b4))), b5)]).bind fun b6 =>
   (invert_Turn.l1 n v0 v1 (IntKind.wrap IntKind.i64 (v2 + 1)) v3 v4 v5 b6))))
  else (some ((v5, v6)))) := by kernel_rfl
theorem invert_Turn.eq (n : Nat) (a0 : List ((ByteArray × ByteArray))) (a1 : List ((Int × (Int × (Int × (ByteArray × List ((ByteArray × ByteArray)))))))) : call invert_Turn.C Tryz.f26 invert_Turn.code invert_Turn.sg invert_Turn.rs n (a0, a1) =
  ((codes_Turn.f a0).bind fun b0 =>
  (invert_Turn.l0 n a1 ((↑(List.length a1) : Int)) 0 a0 a1 b0)) := by kernel_rfl
noncomputable def invert_Turn.f (m : RC) : Option RC := if okC m then some (turnM m) else none
theorem invert_Turn (m : RC) (hm : okC m) : invert_Turn.f m = some (turnM m) := if_pos hm
theorem invert_Turn_l1 (p : List PB) (l : List RU) (hl : l.length ≤ 100000) (hr : ∀ r ∈ l, okR r) (q : List PB) : ∀ (m o : List RU) (k i : Nat), l.drop i = m → o.length ≤ i → m.length < k → invert_Turn.l1 k l (l.length : Int) (i : Int) p l q o = some (q, o ++ m.map turnR)
  | [], o, k, i, hd, ho, hk => by
    obtain ⟨k, rfl⟩ : ∃ m, k = m + 1 := ⟨k - 1, by omega⟩
    have := dropn hd
    rw [invert_Turn.l1_eq, if_neg (by omega)]; simp
  | r :: m, o, k, i, hd, ho, hk => by
    obtain ⟨k, rfl⟩ : ∃ m, k = m + 1 := ⟨k - 1, by omega⟩
    obtain ⟨h1, h2, h3, h4⟩ := dropc hd
    have hk' : m.length < k := by simp at hk; omega
    have hri := hr r (by have := List.drop_subset i l (a := r); rw [hd] at this; exact this (List.mem_cons_self ..))
    rw [invert_Turn.l1_eq, if_pos (by omega), h4, Option.bind_some, codes_Turn _ hri.2, Option.bind_some, lcat_ok _ _ _ (by simp only [List.length_cons, List.length_nil]; omega), Option.bind_some, wrap_succ (by omega)]
    refine (invert_Turn_l1 p l hl hr q m (o ++ [turnR r]) k (i + 1) h2 (by rw [List.length_append, List.length_singleton]; omega) hk').trans ?_
    rw [List.map_cons, List.append_assoc]; rfl
noncomputable def invert_Turn.c : Con := ⟨26, invert_Turn.sg, invert_Turn.rs, invert_Turn.f⟩
theorem invert_Turn.con : ConOk Tryz.prog invert_Turn.c := walked (C := invert_Turn.C) rfl (by kernel_rfl) (by kernel_rfl) (by kernel_rfl) rfl ⟨codes_Turn.con, trivial⟩ fun ⟨p, l⟩ z h => by
  have h : invert_Turn.f (p, l) = some z := h
  unfold invert_Turn.f at h
  split at h
  · rename_i hc
    obtain ⟨hp, hl, hr⟩ := hc
    dsimp only at hp hl hr
    refine ⟨l.length + 1, ?_⟩
    rw [invert_Turn.eq, ← h, codes_Turn p hp, Option.bind_some]
    unfold turnM
    match l, hl, hr with
    | [], _, _ => rw [invert_Turn.l0_eq, if_neg (by simp)]; rfl
    | r :: m, hl, hr =>
      have hri := hr r (List.mem_cons_self ..)
      have g : lget (r :: m) 0 = some r := rfl
      rw [invert_Turn.l0_eq, if_pos (by simp only [List.length_cons]; omega), g, Option.bind_some, codes_Turn _ hri.2, Option.bind_some, lcat_ok _ _ _ (by simp), Option.bind_some]
      refine (invert_Turn_l1 p (r :: m) hl hr (turnP p) m [turnR r] _ 1 rfl (by simp) (by simp)).trans ?_
      rfl
  · cases h
/-! ### groatref20_Great -/
@[reducible] def groatref20_Great.sg : List Shp := [.a (.pair (.int .i64) (.pair (.int .i64) (.pair (.int .i64) (.pair (.str) (.sl (.pair (.str) (.str)))))))]
@[reducible] def groatref20_Great.rs : Rs := .one (.v (.bool))
@[reducible] noncomputable def groatref20_Great.code : Code := Tryz.f57.body.getD .skip
noncomputable def groatref20_Great.C : Ctx := ⟨tab, [], [], ⟨[(4, [1, 3], 1)], []⟩⟩
noncomputable def groatref20_Great.l0 (n : Nat) (v0 : Int) (v1 : Int) (v2 : Int) (v3 : Int) (v4 : ByteArray) (v5 : List ((ByteArray × ByteArray))) : Option Bool := run groatref20_Great.C (finOf groatref20_Great.C Tryz.f57 groatref20_Great.rs) n (todoAt 4 groatref20_Great.code) ⟨[.junk, .ptr 0 0, .junk, .int .i64 v0, .junk, .junk, .junk, .junk, .junk, .junk, .junk, .junk, .junk, .junk, .junk, .junk, .junk, .junk, .junk, .junk, .junk, .junk, .junk, .junk, .junk, .junk, .junk, .junk, .junk, .junk, .junk, .junk, .junk, .junk, .junk, .junk, .junk, .junk, .junk], [[.int .i64 v1, .int .i64 v2, .int .i64 v3, .str v4, .sl none (.pair (.str) (.str)) v5]], []⟩
-- the loop at region 4
theorem groatref20_Great.l0_eq (n : Nat) (v0 : Int) (v1 : Int) (v2 : Int) (v3 : Int) (v4 : ByteArray) (v5 : List ((ByteArray × ByteArray))) : groatref20_Great.l0 (n + 1) v0 v1 v2 v3 v4 v5 =
  (if v0 < (↑(List.length v5) : Int) then ((lget v5 v0).bind fun b0 =>
   (if (↑(ByteArray.size (Prod.fst b0)) : Int) > 1200 then (some true)
   else ((lget v5 v0).bind fun b1 =>
    (if (↑(ByteArray.size (Prod.snd b1)) : Int) > 1200 then (some true)
    else (groatref20_Great.l0 n (IntKind.wrap IntKind.i64 (v0 + 1)) v1 v2 v3 v4 v5)))))
  else (some false)) := by kernel_rfl
theorem groatref20_Great.eq (n : Nat) (a0 : Int) (a1 : Int) (a2 : Int) (a3 : ByteArray) (a4 : List ((ByteArray × ByteArray))) : call groatref20_Great.C Tryz.f57 groatref20_Great.code groatref20_Great.sg groatref20_Great.rs n (a0, (a1, (a2, (a3, a4)))) =
  (if (↑(ByteArray.size a3) : Int) > 1200 then (some true)
  else (if (↑(List.length a4) : Int) > 300 then (some true)
   else (groatref20_Great.l0 n 0 a0 a1 a2 a3 a4))) := by kernel_rfl
def groatref20_Great.f (r : RU) : Option Bool := some (greatU r)
theorem groatref20_Great_l (r0 r1 r2 : Int) (r3 : ByteArray) (l : List PB) (hl : l.length ≤ 300) : ∀ (m : List PB) (k i : Nat), l.drop i = m → m.length < k → groatref20_Great.l0 k (i : Int) r0 r1 r2 r3 l = some (m.any fun p => decide (1200 < p.1.size) || decide (1200 < p.2.size))
  | [], k, i, hd, hk => by
    obtain ⟨k, rfl⟩ : ∃ m, k = m + 1 := ⟨k - 1, by omega⟩
    have := dropn hd
    rw [groatref20_Great.l0_eq, if_neg (by omega)]; rfl
  | p :: m, k, i, hd, hk => by
    obtain ⟨k, rfl⟩ : ∃ m, k = m + 1 := ⟨k - 1, by omega⟩
    obtain ⟨h1, h2, h3, h4⟩ := dropc hd
    have hk' : m.length < k := by simp at hk; omega
    rw [groatref20_Great.l0_eq, if_pos (by omega), h4, Option.bind_some, Option.bind_some, wrap_succ (by omega), groatref20_Great_l r0 r1 r2 r3 l hl m k (i + 1) h2 hk', List.any_cons]
    by_cases c1 : 1200 < p.1.size
    · rw [if_pos (by omega), decide_eq_true c1]; rfl
    · rw [if_neg (by omega), decide_eq_false c1, Bool.false_or]
      by_cases c2 : 1200 < p.2.size
      · rw [if_pos (by omega), decide_eq_true c2]; rfl
      · rw [if_neg (by omega), decide_eq_false c2, Bool.false_or]
noncomputable def groatref20_Great.c : Con := ⟨57, groatref20_Great.sg, groatref20_Great.rs, groatref20_Great.f⟩
theorem groatref20_Great.con : ConOk Tryz.prog groatref20_Great.c := walked (C := groatref20_Great.C) rfl (by kernel_rfl) (by kernel_rfl) (by kernel_rfl) rfl trivial fun ⟨r0, r1, r2, r3, l⟩ z h => by
  have h : some (greatU (r0, r1, r2, r3, l)) = some z := h
  refine ⟨302, ?_⟩
  rw [groatref20_Great.eq, ← h]
  unfold greatU
  dsimp only
  by_cases c1 : 1200 < r3.size
  · rw [if_pos (by omega), decide_eq_true c1]; rfl
  rw [if_neg (by omega), decide_eq_false c1, Bool.false_or]
  by_cases c2 : 300 < l.length
  · rw [if_pos (by omega), decide_eq_true c2]; rfl
  rw [if_neg (by omega), decide_eq_false c2, Bool.false_or]
  exact groatref20_Great_l r0 r1 r2 r3 l (by omega) l _ 0 rfl (by omega)
/-! ### groatref21_Great -/
@[reducible] def groatref21_Great.sg : List Shp := [.a (.pair (.sl (.pair (.str) (.str))) (.sl (.pair (.int .i64) (.pair (.int .i64) (.pair (.int .i64) (.pair (.str) (.sl (.pair (.str) (.str)))))))))]
@[reducible] def groatref21_Great.rs : Rs := .one (.v (.bool))
@[reducible] noncomputable def groatref21_Great.code : Code := Tryz.f23.body.getD .skip
noncomputable def groatref21_Great.C : Ctx := ⟨tab, [groatref20_Great.c], [], ⟨[(4, [1, 3], 1), (9, [1, 4], 1)], []⟩⟩
noncomputable def groatref21_Great.l0 (n : Nat) (v0 : Int) (v1 : List ((ByteArray × ByteArray))) (v2 : List ((Int × (Int × (Int × (ByteArray × List ((ByteArray × ByteArray)))))))) : Option Bool := run groatref21_Great.C (finOf groatref21_Great.C Tryz.f23 groatref21_Great.rs) n (todoAt 4 groatref21_Great.code) ⟨[.junk, .ptr 0 0, .junk, .int .i64 v0, .junk, .junk, .junk, .junk, .junk, .junk, .junk, .junk, .junk, .junk, .junk, .junk, .junk, .junk, .junk, .junk, .junk, .junk, .junk, .junk, .junk, .junk, .junk, .junk, .junk, .junk, .junk, .junk, .junk, .junk, .junk, .junk, .junk, .junk, .junk, .junk, .junk, .junk, .junk, .junk, .junk, .junk, .junk, .junk, .junk, .junk, .junk, .junk, .junk], [[.sl none (.pair (.str) (.str)) v1, .sl none (.pair (.int .i64) (.pair (.int .i64) (.pair (.int .i64) (.pair (.str) (.sl (.pair (.str) (.str))))))) v2]], []⟩
noncomputable def groatref21_Great.l1 (n : Nat) (v0 : Int) (v1 : List ((ByteArray × ByteArray))) (v2 : List ((Int × (Int × (Int × (ByteArray × List ((ByteArray × ByteArray)))))))) : Option Bool := run groatref21_Great.C (finOf groatref21_Great.C Tryz.f23 groatref21_Great.rs) n (todoAt 9 groatref21_Great.code) ⟨[.junk, .ptr 0 0, .junk, .junk, .int .i64 v0, .junk, .junk, .junk, .junk, .junk, .junk, .junk, .junk, .junk, .junk, .junk, .junk, .junk, .junk, .junk, .junk, .junk, .junk, .junk, .junk, .junk, .junk, .junk, .junk, .junk, .junk, .junk, .junk, .junk, .junk, .junk, .junk, .junk, .junk, .junk, .junk, .junk, .junk, .junk, .junk, .junk, .junk, .junk, .junk, .junk, .junk, .junk, .junk], [[.sl none (.pair (.str) (.str)) v1, .sl none (.pair (.int .i64) (.pair (.int .i64) (.pair (.int .i64) (.pair (.str) (.sl (.pair (.str) (.str))))))) v2]], []⟩
-- the loop at region 4
theorem groatref21_Great.l0_eq (n : Nat) (v0 : Int) (v1 : List ((ByteArray × ByteArray))) (v2 : List ((Int × (Int × (Int × (ByteArray × List ((ByteArray × ByteArray)))))))) : groatref21_Great.l0 (n + 1) v0 v1 v2 =
  (if v0 < (↑(List.length v1) : Int) then ((lget v1 v0).bind fun b0 =>
   (if (↑(ByteArray.size (Prod.fst b0)) : Int) > 100 then (some true)
   else ((lget v1 v0).bind fun b1 =>
    (if (↑(ByteArray.size (Prod.snd b1)) : Int) > 100 then (some true)
    else (groatref21_Great.l0 n (IntKind.wrap IntKind.i64 (v0 + 1)) v1 v2)))))
  else (groatref21_Great.l1 n 0 v1 v2)) := by kernel_rfl
-- the loop at region 9
theorem groatref21_Great.l1_eq (n : Nat) (v0 : Int) (v1 : List ((ByteArray × ByteArray))) (v2 : List ((Int × (Int × (Int × (ByteArray × List ((ByteArray × ByteArray)))))))) : groatref21_Great.l1 (n + 1) v0 v1 v2 =
  (if v0 < (↑(List.length v2) : Int) then ((lget v2 v0).bind fun b2 =>
   ((groatref20_Great.f b2).bind fun b3 =>
   (if b3 = true then (some true)
   else (groatref21_Great.l1 n (IntKind.wrap IntKind.i64 (v0 + 1)) v1 v2))))
  else (some false)) := by kernel_rfl
theorem groatref21_Great.eq (n : Nat) (a0 : List ((ByteArray × ByteArray))) (a1 : List ((Int × (Int × (Int × (ByteArray × List ((ByteArray × ByteArray)))))))) : call groatref21_Great.C Tryz.f23 groatref21_Great.code groatref21_Great.sg groatref21_Great.rs n (a0, a1) =
  (if (↑(List.length a0) : Int) > 300 then (some true)
  else (if (↑(List.length a1) : Int) > 300 then (some true)
   else (groatref21_Great.l0 n 0 a0 a1))) := by kernel_rfl
def groatref21_Great.f (m : RC) : Option Bool := some (greatM m)
theorem groatref21_Great_l1 (p : List PB) (l : List RU) (hl : l.length ≤ 300) : ∀ (m : List RU) (k i : Nat), l.drop i = m → m.length < k → groatref21_Great.l1 k (i : Int) p l = some (m.any greatU)
  | [], k, i, hd, hk => by
    obtain ⟨k, rfl⟩ : ∃ m, k = m + 1 := ⟨k - 1, by omega⟩
    have := dropn hd
    rw [groatref21_Great.l1_eq, if_neg (by omega)]; rfl
  | r :: m, k, i, hd, hk => by
    obtain ⟨k, rfl⟩ : ∃ m, k = m + 1 := ⟨k - 1, by omega⟩
    obtain ⟨h1, h2, h3, h4⟩ := dropc hd
    have hk' : m.length < k := by simp at hk; omega
    rw [groatref21_Great.l1_eq, if_pos (by omega), h4, Option.bind_some, show groatref20_Great.f r = some (greatU r) from rfl, Option.bind_some, wrap_succ (by omega), groatref21_Great_l1 p l hl m k (i + 1) h2 hk', List.any_cons]
    cases greatU r <;> rfl
theorem groatref21_Great_l0 (p : List PB) (hp : p.length ≤ 300) (l : List RU) (hl : l.length ≤ 300) : ∀ (m : List PB) (k i : Nat), p.drop i = m → m.length + 301 < k → groatref21_Great.l0 k (i : Int) p l = some ((m.any fun p => decide (100 < p.1.size) || decide (100 < p.2.size)) || l.any greatU)
  | [], k, i, hd, hk => by
    obtain ⟨k, rfl⟩ : ∃ m, k = m + 1 := ⟨k - 1, by omega⟩
    have := dropn hd
    rw [groatref21_Great.l0_eq, if_neg (by omega)]
    refine (groatref21_Great_l1 p l hl l k 0 rfl (by simp at hk; omega)).trans ?_
    rfl
  | q :: m, k, i, hd, hk => by
    obtain ⟨k, rfl⟩ : ∃ m, k = m + 1 := ⟨k - 1, by omega⟩
    obtain ⟨h1, h2, h3, h4⟩ := dropc hd
    have hk' : m.length + 301 < k := by simp at hk; omega
    rw [groatref21_Great.l0_eq, if_pos (by omega), h4, Option.bind_some, Option.bind_some, wrap_succ (by omega), groatref21_Great_l0 p hp l hl m k (i + 1) h2 hk', List.any_cons]
    by_cases c1 : 100 < q.1.size
    · rw [if_pos (by omega), decide_eq_true c1]; rfl
    · rw [if_neg (by omega), decide_eq_false c1, Bool.false_or]
      by_cases c2 : 100 < q.2.size
      · rw [if_pos (by omega), decide_eq_true c2]; rfl
      · rw [if_neg (by omega), decide_eq_false c2, Bool.false_or]
noncomputable def groatref21_Great.c : Con := ⟨23, groatref21_Great.sg, groatref21_Great.rs, groatref21_Great.f⟩
theorem groatref21_Great.con : ConOk Tryz.prog groatref21_Great.c := walked (C := groatref21_Great.C) rfl (by kernel_rfl) (by kernel_rfl) (by kernel_rfl) rfl ⟨groatref20_Great.con, trivial⟩ fun ⟨p, l⟩ z h => by
  have h : some (greatM (p, l)) = some z := h
  refine ⟨603, ?_⟩
  rw [groatref21_Great.eq, ← h]
  unfold greatM
  dsimp only
  by_cases c1 : 300 < p.length
  · rw [if_pos (by omega), decide_eq_true c1]; rfl
  rw [if_neg (by omega), decide_eq_false c1, Bool.false_or]
  by_cases c2 : 300 < l.length
  · rw [if_pos (by omega), decide_eq_true c2]; rfl
  rw [if_neg (by omega), decide_eq_false c2, Bool.false_or]
  exact groatref21_Great_l0 p (by omega) l (by omega) p _ 0 rfl (by omega)
theorem okC_of {m : RC} (h : greatM m = false) : okC m ∧ m.1.length ≤ 300 ∧ m.2.length ≤ 300 := by
  unfold greatM at h
  simp only [Bool.or_eq_false_iff, decide_eq_false_iff_not, List.any_eq_false, decide_eq_true_eq] at h
  obtain ⟨h1, h2, h3, h4⟩ := h
  refine ⟨⟨⟨by omega, fun p hp => ?_⟩, by omega, fun r hr => ?_⟩, by omega, by omega⟩
  · have := h3 p hp
    simp only [Bool.or_eq_true, decide_eq_true_eq, not_or] at this
    omega
  · have := h4 r hr
    rw [Bool.not_eq_true] at this
    unfold greatU at this
    simp only [Bool.or_eq_false_iff, decide_eq_false_iff_not, List.any_eq_false] at this
    obtain ⟨k1, k2, k3⟩ := this
    refine ⟨by omega, by omega, fun p hp => ?_⟩
    have := k3 p hp
    simp only [Bool.or_eq_true, decide_eq_true_eq, not_or] at this
    omega
end Go.Proofs.YtkaihbkfobiejaaGreatDoor.Xe
