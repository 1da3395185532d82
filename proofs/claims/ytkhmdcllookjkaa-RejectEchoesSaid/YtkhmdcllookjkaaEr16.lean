/- What the reference's functions on messages answer. -/
import Derived.Test.YtkhmdcllookjkaaEms
import Derived.Test.YtkhmdcllookjkaaEr05h
namespace Go.Proofs.Ytkhmdcllookjkaa.Xe
open Go Go.RowKit Go.Proofs.Ytkhmdcllookjkaa.Sp
set_option linter.unusedVariables false
set_option linter.unusedSimpArgs false
set_option maxRecDepth 100000
/-! ### groatref16_Copy -/
@[reducible] def groatref16_Copy.sg : List Shp := [.a (.pair (.str) (.sl (.pair (.int .i64) (.str))))]
@[reducible] def groatref16_Copy.rs : Rs := .one (.a (.pair (.str) (.sl (.pair (.int .i64) (.str)))))
@[reducible] noncomputable def groatref16_Copy.code : Code := Try.f17.body.getD .skip
noncomputable def groatref16_Copy.C : Ctx := ⟨tab, [], [], ⟨[], []⟩⟩
theorem groatref16_Copy.eq (n : Nat) (a0 : ByteArray) (a1 : List ((Int × ByteArray))) : call groatref16_Copy.C Try.f17 groatref16_Copy.code groatref16_Copy.sg groatref16_Copy.rs n (a0, a1) =
  ((lcat 24 [] a1).bind fun b0 =>
  (some ((a0, b0)))) := by kernel_rfl
noncomputable def groatref16_Copy.f : El (sgTy groatref16_Copy.sg) → Option (El groatref16_Copy.rs.ty) := fun x => match x with
  | (a0, a1) =>
  ((lcat 24 [] a1).bind fun b0 =>
  (some ((a0, b0))))
noncomputable def groatref16_Copy.c : Con := ⟨17, groatref16_Copy.sg, groatref16_Copy.rs, groatref16_Copy.f⟩
theorem groatref16_Copy.con : ConOk Try.prog groatref16_Copy.c := walked (C := groatref16_Copy.C) rfl (by kernel_rfl) (by kernel_rfl) (by kernel_rfl) rfl trivial fun ⟨a0, a1⟩ y h => ⟨0, (groatref16_Copy.eq 0 a0 a1).trans h⟩
theorem groatref16_Copy (t : ByteArray) (l : List V) (hl : l.length ≤ 1000000) : groatref16_Copy.f (t, l) = some (t, l) := by
  simp only [groatref16_Copy.f]
  rw [lcat_ok _ _ _ (by simp only [List.length_nil]; omega), Option.bind_some]; rfl
/-! ### groatref16_Great -/
@[reducible] def groatref16_Great.sg : List Shp := [.a (.pair (.str) (.sl (.pair (.int .i64) (.str))))]
@[reducible] def groatref16_Great.rs : Rs := .one (.v (.bool))
@[reducible] noncomputable def groatref16_Great.code : Code := Try.f14.body.getD .skip
noncomputable def groatref16_Great.C : Ctx := ⟨tab, [], [], ⟨[(4, [1, 3], 1)], []⟩⟩
noncomputable def groatref16_Great.l0 (n : Nat) (v0 : Int) (v1 : ByteArray) (v2 : List ((Int × ByteArray))) : Option Bool := run groatref16_Great.C (finOf groatref16_Great.C Try.f14 groatref16_Great.rs) n (todoAt 4 groatref16_Great.code) ⟨[.junk, .ptr 0 0, .junk, .int .i64 v0, .junk, .junk, .junk, .junk, .junk, .junk, .junk, .junk, .junk, .junk, .junk, .junk, .junk, .junk, .junk, .junk, .junk, .junk, .junk, .junk, .junk, .junk, .junk, .junk, .junk], [[.str v1, .sl none (.pair (.int .i64) (.str)) v2]], []⟩
-- the loop at region 4
theorem groatref16_Great.l0_eq (n : Nat) (v0 : Int) (v1 : ByteArray) (v2 : List ((Int × ByteArray))) : groatref16_Great.l0 (n + 1) v0 v1 v2 =
  (if v0 < (↑(List.length v2) : Int) then ((lget v2 v0).bind fun b0 =>
   (if (↑(ByteArray.size (Prod.snd b0)) : Int) > 1200 then (some true)
   else (groatref16_Great.l0 n (IntKind.wrap IntKind.i64 (v0 + 1)) v1 v2)))
  else (some false)) := by kernel_rfl
theorem groatref16_Great.eq (n : Nat) (a0 : ByteArray) (a1 : List ((Int × ByteArray))) : call groatref16_Great.C Try.f14 groatref16_Great.code groatref16_Great.sg groatref16_Great.rs n (a0, a1) =
  (if (↑(ByteArray.size a0) : Int) > 100 then (some true)
  else (if (↑(List.length a1) : Int) > 200 then (some true)
   else (groatref16_Great.l0 n 0 a0 a1))) := by kernel_rfl
def groatref16_Great.f (x : ByteArray × List V) : Option Bool := some (great x.1 x.2)
theorem groatref16_Great_l (t : ByteArray) (l : List V) (hl : l.length ≤ 200) : ∀ (m : List V) (k i : Nat), l.drop i = m → m.length < k → groatref16_Great.l0 k (i : Int) t l = some (m.any fun v => decide (1200 < v.2.size))
  | [], k, i, hd, hk => by
    obtain ⟨k, rfl⟩ : ∃ m, k = m + 1 := ⟨k - 1, by omega⟩
    have := dropn hd
    rw [groatref16_Great.l0_eq, if_neg (by omega)]; rfl
  | v :: m, k, i, hd, hk => by
    obtain ⟨k, rfl⟩ : ∃ m, k = m + 1 := ⟨k - 1, by omega⟩
    obtain ⟨e1, e2, e3, e4⟩ := dropc hd
    have hk' : m.length < k := by simp at hk; omega
    rw [groatref16_Great.l0_eq, if_pos (by omega), e4, Option.bind_some, wrap_succ (by omega), groatref16_Great_l t l hl m k (i + 1) e2 hk', List.any_cons]
    by_cases c : 1200 < v.2.size
    · rw [if_pos (by omega), decide_eq_true c]; rfl
    · rw [if_neg (by omega), decide_eq_false c]; rfl
theorem groatref16_Great (t : ByteArray) (l : List V) : groatref16_Great.f (t, l) = some (great t l) := rfl
noncomputable def groatref16_Great.c : Con := ⟨14, groatref16_Great.sg, groatref16_Great.rs, groatref16_Great.f⟩
theorem groatref16_Great.con : ConOk Try.prog groatref16_Great.c := walked (C := groatref16_Great.C) rfl (by kernel_rfl) (by kernel_rfl) (by kernel_rfl) rfl trivial fun ⟨t, l⟩ y h => by
  have h : groatref16_Great.f (t, l) = some y := h
  rw [groatref16_Great] at h
  refine ⟨l.length + 1, ?_⟩
  rw [groatref16_Great.eq, ← h, great]
  by_cases c1 : (t.size : Int) > 100
  · rw [if_pos c1, decide_eq_true (by omega : 100 < t.size)]; rfl
  · rw [if_neg c1, decide_eq_false (by omega : ¬ 100 < t.size), Bool.false_or]
    by_cases c2 : (List.length (α := V) l : Int) > 200
    · rw [if_pos c2, decide_eq_true (by omega : 200 < List.length (α := V) l)]; rfl
    · rw [if_neg c2, decide_eq_false (by omega : ¬ 200 < List.length (α := V) l), Bool.false_or]
      exact groatref16_Great_l t l (by omega) l _ 0 rfl (by omega)
/-! ### groatref16_Find -/
@[reducible] def groatref16_Find.sg : List Shp := [.a (.pair (.str) (.sl (.pair (.int .i64) (.str)))), .v (.int .i64)]
@[reducible] def groatref16_Find.rs : Rs := .one (.v (.int .i64))
@[reducible] noncomputable def groatref16_Find.code : Code := Try.f26.body.getD .skip
noncomputable def groatref16_Find.C : Ctx := ⟨tab, [], [], ⟨[(2, [1, 2, 5], 1)], []⟩⟩
noncomputable def groatref16_Find.l0 (n : Nat) (v0 : Int) (v1 : Int) (v2 : ByteArray) (v3 : List ((Int × ByteArray))) : Option Int := run groatref16_Find.C (finOf groatref16_Find.C Try.f26 groatref16_Find.rs) n (todoAt 2 groatref16_Find.code) ⟨[.junk, .int .i64 v0, .ptr 0 0, .junk, .junk, .int .i64 v1, .junk, .junk, .junk, .junk, .junk, .junk, .junk, .junk, .junk, .junk, .junk, .junk, .junk, .junk, .junk, .junk], [[.str v2, .sl none (.pair (.int .i64) (.str)) v3]], []⟩
-- the loop at region 2
theorem groatref16_Find.l0_eq (n : Nat) (v0 : Int) (v1 : Int) (v2 : ByteArray) (v3 : List ((Int × ByteArray))) : groatref16_Find.l0 (n + 1) v0 v1 v2 v3 =
  (if v1 < (↑(List.length v3) : Int) then ((lget v3 v1).bind fun b0 =>
   (if Prod.fst b0 = v0 then (some v1)
   else (groatref16_Find.l0 n v0 (IntKind.wrap IntKind.i64 (v1 + 1)) v2 v3)))
  else (some (-1))) := by kernel_rfl
theorem groatref16_Find.eq (n : Nat) (a0 : ByteArray) (a1 : List ((Int × ByteArray))) (a2 : Int) : call groatref16_Find.C Try.f26 groatref16_Find.code groatref16_Find.sg groatref16_Find.rs n ((a0, a1), a2) =
  (groatref16_Find.l0 n a2 0 a0 a1) := by kernel_rfl
def groatref16_Find.f (x : (ByteArray × List V) × Int) : Option Int := if x.1.2.length ≤ 1000000 then some (findV x.2 0 x.1.2) else none
theorem groatref16_Find (t : ByteArray) (l : List V) (hl : l.length ≤ 1000000) (n : Int) : groatref16_Find.f ((t, l), n) = some (findV n 0 l) := if_pos hl
theorem groatref16_Find_l (t : ByteArray) (l : List V) (hl : l.length ≤ 1000000) (n : Int) : ∀ (m : List V) (k i : Nat), l.drop i = m → m.length < k → groatref16_Find.l0 k n (i : Int) t l = some (findV n i m)
  | [], k, i, hd, hk => by
    obtain ⟨k, rfl⟩ : ∃ m, k = m + 1 := ⟨k - 1, by omega⟩
    have := dropn hd
    rw [groatref16_Find.l0_eq, if_neg (by omega)]; rfl
  | v :: m, k, i, hd, hk => by
    obtain ⟨k, rfl⟩ : ∃ m, k = m + 1 := ⟨k - 1, by omega⟩
    obtain ⟨e1, e2, e3, e4⟩ := dropc hd
    have hk' : m.length < k := by simp at hk; omega
    rw [groatref16_Find.l0_eq, if_pos (by omega), e4, Option.bind_some, wrap_succ (by omega), groatref16_Find_l t l hl n m k (i + 1) e2 hk', findV]
    split <;> rfl
noncomputable def groatref16_Find.c : Con := ⟨26, groatref16_Find.sg, groatref16_Find.rs, groatref16_Find.f⟩
theorem groatref16_Find.con : ConOk Try.prog groatref16_Find.c := walked (C := groatref16_Find.C) rfl (by kernel_rfl) (by kernel_rfl) (by kernel_rfl) rfl trivial fun ⟨⟨t, l⟩, n⟩ y h => by
  have h : groatref16_Find.f ((t, l), n) = some y := h
  unfold groatref16_Find.f at h
  split at h
  · rename_i hc
    exact ⟨l.length + 1, by rw [groatref16_Find.eq]; exact (groatref16_Find_l t l hc n l _ 0 rfl (by omega)).trans h⟩
  · cases h
/-! ### groatref16_Numbers -/
@[reducible] def groatref16_Numbers.sg : List Shp := [.a (.pair (.str) (.sl (.pair (.int .i64) (.str))))]
@[reducible] def groatref16_Numbers.rs : Rs := .one (.v (.sl (.int .i64)))
@[reducible] noncomputable def groatref16_Numbers.code : Code := Try.f28.body.getD .skip
noncomputable def groatref16_Numbers.C : Ctx := ⟨tab, [], [], ⟨[(3, [1, 3, 4], 1)], []⟩⟩
noncomputable def groatref16_Numbers.l0 (n : Nat) (v0 : List Int) (v1 : Int) (v2 : ByteArray) (v3 : List ((Int × ByteArray))) : Option (List Int) := run groatref16_Numbers.C (finOf groatref16_Numbers.C Try.f28 groatref16_Numbers.rs) n (todoAt 3 groatref16_Numbers.code) ⟨[.junk, .ptr 0 0, .junk, .sl (some 0) (.int .i64) v0, .int .i64 v1, .junk, .junk, .junk, .junk, .junk, .junk, .junk, .junk, .junk, .junk, .junk, .junk, .junk, .junk, .junk, .junk, .junk, .junk], [[.str v2, .sl none (.pair (.int .i64) (.str)) v3]], [true]⟩
-- the loop at region 3
theorem groatref16_Numbers.l0_eq (n : Nat) (v0 : List Int) (v1 : Int) (v2 : ByteArray) (v3 : List ((Int × ByteArray))) : groatref16_Numbers.l0 (n + 1) v0 v1 v2 v3 =
  (if v1 < (↑(List.length v3) : Int) then ((lget v3 v1).bind fun b0 =>
   ((lcat 8 v0 [Prod.fst b0]).bind fun b1 =>
   (groatref16_Numbers.l0 n b1 (IntKind.wrap IntKind.i64 (v1 + 1)) v2 v3)))
  else (some v0)) := by kernel_rfl
theorem groatref16_Numbers.eq (n : Nat) (a0 : ByteArray) (a1 : List ((Int × ByteArray))) : call groatref16_Numbers.C Try.f28 groatref16_Numbers.code groatref16_Numbers.sg groatref16_Numbers.rs n (a0, a1) =
  (groatref16_Numbers.l0 n [] 0 a0 a1) := by kernel_rfl
def groatref16_Numbers.f (x : ByteArray × List V) : Option (List Int) := if x.2.length ≤ 1000000 then some (x.2.map Prod.fst) else none
theorem groatref16_Numbers (t : ByteArray) (l : List V) (hl : l.length ≤ 1000000) : groatref16_Numbers.f (t, l) = some (l.map Prod.fst) := if_pos hl
theorem groatref16_Numbers_l (t : ByteArray) (l : List V) (hl : l.length ≤ 1000000) : ∀ (m : List V) (o : List Int) (k i : Nat), l.drop i = m → o.length ≤ i → m.length < k → groatref16_Numbers.l0 k o (i : Int) t l = some (o ++ m.map Prod.fst)
  | [], o, k, i, hd, ho, hk => by
    obtain ⟨k, rfl⟩ : ∃ m, k = m + 1 := ⟨k - 1, by omega⟩
    have := dropn hd
    rw [groatref16_Numbers.l0_eq, if_neg (by omega)]; simp
  | v :: m, o, k, i, hd, ho, hk => by
    obtain ⟨k, rfl⟩ : ∃ m, k = m + 1 := ⟨k - 1, by omega⟩
    obtain ⟨e1, e2, e3, e4⟩ := dropc hd
    have hk' : m.length < k := by simp at hk; omega
    rw [groatref16_Numbers.l0_eq, if_pos (by omega), e4, Option.bind_some, lcat_ok _ _ _ (by simp only [List.length_cons, List.length_nil]; omega), Option.bind_some, wrap_succ (by omega), groatref16_Numbers_l t l hl m (o ++ [v.1]) k (i + 1) e2 (by rw [List.length_append]; simp only [List.length_cons, List.length_nil]; omega) hk']
    simp
noncomputable def groatref16_Numbers.c : Con := ⟨28, groatref16_Numbers.sg, groatref16_Numbers.rs, groatref16_Numbers.f⟩
theorem groatref16_Numbers.con : ConOk Try.prog groatref16_Numbers.c := walked (C := groatref16_Numbers.C) rfl (by kernel_rfl) (by kernel_rfl) (by kernel_rfl) rfl trivial fun ⟨t, l⟩ y h => by
  have h : groatref16_Numbers.f (t, l) = some y := h
  unfold groatref16_Numbers.f at h
  split at h
  · rename_i hc
    exact ⟨l.length + 1, by rw [groatref16_Numbers.eq]; exact (groatref16_Numbers_l t l hc l [] _ 0 rfl (Nat.le_refl _) (by omega)).trans h⟩
  · cases h
/-! ### groatref16_Same -/
@[reducible] def groatref16_Same.sg : List Shp := [.a (.pair (.str) (.sl (.pair (.int .i64) (.str)))), .a (.pair (.str) (.sl (.pair (.int .i64) (.str))))]
@[reducible] def groatref16_Same.rs : Rs := .one (.v (.bool))
@[reducible] noncomputable def groatref16_Same.code : Code := Try.f22.body.getD .skip
noncomputable def groatref16_Same.C : Ctx := ⟨tab, [], [], ⟨[(4, [2, 3, 5], 2)], []⟩⟩
noncomputable def groatref16_Same.l0 (n : Nat) (v0 : Int) (v1 : ByteArray) (v2 : List ((Int × ByteArray))) (v3 : ByteArray) (v4 : List ((Int × ByteArray))) : Option Bool := run groatref16_Same.C (finOf groatref16_Same.C Try.f22 groatref16_Same.rs) n (todoAt 4 groatref16_Same.code) ⟨[.junk, .junk, .ptr 0 0, .ptr 1 0, .junk, .int .i64 v0, .junk, .junk, .junk, .junk, .junk, .junk, .junk, .junk, .junk, .junk, .junk, .junk, .junk, .junk, .junk, .junk, .junk, .junk, .junk, .junk, .junk, .junk, .junk, .junk, .junk, .junk, .junk, .junk, .junk, .junk, .junk, .junk], [[.str v1, .sl none (.pair (.int .i64) (.str)) v2], [.str v3, .sl none (.pair (.int .i64) (.str)) v4]], []⟩
-- the loop at region 4
theorem groatref16_Same.l0_eq (n : Nat) (v0 : Int) (v1 : ByteArray) (v2 : List ((Int × ByteArray))) (v3 : ByteArray) (v4 : List ((Int × ByteArray))) : groatref16_Same.l0 (n + 1) v0 v1 v2 v3 v4 =
  (if v0 < (↑(List.length v2) : Int) then ((lget v2 v0).bind fun b0 =>
   ((lget v4 v0).bind fun b1 =>
   (if ¬(Prod.fst b0 = Prod.fst b1 ∧ Prod.snd b0 = Prod.snd b1 ∧ True) then (some false)
   else (groatref16_Same.l0 n (IntKind.wrap IntKind.i64 (v0 + 1)) v1 v2 v3 v4))))
  else (some true)) := by kernel_rfl
theorem groatref16_Same.eq (n : Nat) (a0 : ByteArray) (a1 : List ((Int × ByteArray))) (a2 : ByteArray) (a3 : List ((Int × ByteArray))) : call groatref16_Same.C Try.f22 groatref16_Same.code groatref16_Same.sg groatref16_Same.rs n ((a0, a1), (a2, a3)) =
  (if ¬a0 = a2 then (some false)
  else (if ¬(↑(List.length a1) : Int) = (↑(List.length a3) : Int) then (some false)
   else (groatref16_Same.l0 n 0 a0 a1 a2 a3))) := by kernel_rfl
def groatref16_Same.f (x : (ByteArray × List V) × ByteArray × List V) : Option Bool := if x.1.2.length ≤ 1000000 then some (decide (x.1 = x.2)) else none
theorem groatref16_Same (t u : ByteArray) (l m : List V) (hl : l.length ≤ 1000000) : groatref16_Same.f ((t, l), u, m) = some (decide ((t, l) = (u, m))) := if_pos hl
theorem groatref16_Same_l (t u : ByteArray) (l m : List V) (hl : l.length ≤ 1000000) (hm : m.length = l.length) : ∀ (p q : List V) (k i : Nat), l.drop i = p → m.drop i = q → p.length < k → groatref16_Same.l0 k (i : Int) t l u m = some (decide (p = q))
  | [], q, k, i, h1, h2, hk => by
    obtain ⟨k, rfl⟩ : ∃ m, k = m + 1 := ⟨k - 1, by omega⟩
    have := dropn h1
    have : q = [] := by rw [← h2]; exact List.drop_of_length_le (by omega)
    subst this
    rw [groatref16_Same.l0_eq, if_neg (by omega)]; rfl
  | v :: p, q, k, i, h1, h2, hk => by
    obtain ⟨k, rfl⟩ : ∃ m, k = m + 1 := ⟨k - 1, by omega⟩
    obtain ⟨e1, e2, e3, e4⟩ := dropc h1
    have hk' : p.length < k := by simp at hk; omega
    cases q with
    | nil => have := dropn h2; omega
    | cons w q =>
      obtain ⟨f1, f2, f3, f4⟩ := dropc h2
      rw [groatref16_Same.l0_eq, if_pos (by omega), e4, Option.bind_some, f4, Option.bind_some, wrap_succ (by omega), groatref16_Same_l t u l m hl hm p q k (i + 1) e2 f2 hk']
      by_cases c : v = w
      · subst c
        rw [if_neg (fun e => e ⟨rfl, rfl, trivial⟩)]
        congr 1
        exact decide_eq_decide.2 (by simp)
      · rw [if_pos (fun e => c (Prod.ext e.1 e.2.1))]
        congr 1
        exact (decide_eq_false (by simp [c])).symm
noncomputable def groatref16_Same.c : Con := ⟨22, groatref16_Same.sg, groatref16_Same.rs, groatref16_Same.f⟩
theorem groatref16_Same.con : ConOk Try.prog groatref16_Same.c := walked (C := groatref16_Same.C) rfl (by kernel_rfl) (by kernel_rfl) (by kernel_rfl) rfl trivial fun ⟨⟨t, l⟩, u, m⟩ y h => by
  have h : groatref16_Same.f ((t, l), u, m) = some y := h
  unfold groatref16_Same.f at h
  split at h
  · rename_i hc
    refine ⟨l.length + 1, ?_⟩
    rw [groatref16_Same.eq, ← h]
    by_cases c0 : t = u
    · subst c0
      rw [if_neg (not_not_intro rfl)]
      by_cases c : (l.length : Int) = (m.length : Int)
      · rw [if_neg (not_not_intro c)]
        refine (groatref16_Same_l t t l m hc (by omega) l m _ 0 rfl rfl (by omega)).trans ?_
        congr 1
        exact decide_eq_decide.2 (by simp)
      · rw [if_pos c]
        congr 1
        exact (decide_eq_false fun e => c (by rw [show l = m from (Prod.ext_iff.1 e).2])).symm
    · rw [if_pos c0]
      congr 1
      exact (decide_eq_false fun e => c0 (Prod.ext_iff.1 e).1).symm
  · cases h
/-! ### groatref16_Without -/
@[reducible] def groatref16_Without.sg : List Shp := [.a (.pair (.str) (.sl (.pair (.int .i64) (.str)))), .v (.int .i64)]
@[reducible] def groatref16_Without.rs : Rs := .one (.a (.pair (.str) (.sl (.pair (.int .i64) (.str)))))
@[reducible] noncomputable def groatref16_Without.code : Code := Try.f24.body.getD .skip
noncomputable def groatref16_Without.C : Ctx := ⟨tab, [], [], ⟨[(3, [1, 2, 4, 5, 6], 3)], []⟩⟩
noncomputable def groatref16_Without.l0 (n : Nat) (v0 : Int) (v1 : Int) (v2 : ByteArray) (v3 : List ((Int × ByteArray))) (v4 : ByteArray) (v5 : ByteArray) : Option ((ByteArray × List ((Int × ByteArray)))) := run groatref16_Without.C (finOf groatref16_Without.C Try.f24 groatref16_Without.rs) n (todoAt 3 groatref16_Without.code) ⟨[.junk, .int .i64 v0, .ptr 0 0, .junk, .ptr 1 0, .ptr 2 0, .int .i64 v1, .junk, .junk, .junk, .junk, .junk, .junk, .junk, .junk, .junk, .junk, .junk, .junk, .junk, .junk, .junk, .junk, .junk, .junk, .junk, .junk, .junk, .junk, .junk, .junk, .junk, .junk, .junk, .junk, .junk], [[.str v2, .sl none (.pair (.int .i64) (.str)) v3], [.str v4, .nilsl], [.str v5, .nilsl]], []⟩
noncomputable def groatref16_Without.l1 (n : Nat) (v0 : Int) (v1 : Int) (v2 : ByteArray) (v3 : List ((Int × ByteArray))) (v4 : ByteArray) (v5 : ByteArray) (v6 : List ((Int × ByteArray))) : Option ((ByteArray × List ((Int × ByteArray)))) := run groatref16_Without.C (finOf groatref16_Without.C Try.f24 groatref16_Without.rs) n (todoAt 3 groatref16_Without.code) ⟨[.junk, .int .i64 v0, .ptr 0 0, .junk, .ptr 1 0, .ptr 2 0, .int .i64 v1, .junk, .junk, .junk, .junk, .junk, .junk, .junk, .junk, .junk, .junk, .junk, .junk, .junk, .junk, .junk, .junk, .junk, .junk, .junk, .junk, .junk, .junk, .junk, .junk, .junk, .junk, .junk, .junk, .junk], [[.str v2, .sl none (.pair (.int .i64) (.str)) v3], [.str v4, .nilsl], [.str v5, .sl (some 0) (.pair (.int .i64) (.str)) v6]], [true]⟩
-- the loop at region 3
theorem groatref16_Without.l0_eq (n : Nat) (v0 : Int) (v1 : Int) (v2 : ByteArray) (v3 : List ((Int × ByteArray))) (v4 : ByteArray) (v5 : ByteArray) : groatref16_Without.l0 (n + 1) v0 v1 v2 v3 v4 v5 =
  (if v1 < (↑(List.length v3) : Int) then ((lget v3 v1).bind fun b0 =>
   (if ¬Prod.fst b0 = v0 then ((lget v3 v1).bind fun b1 =>
    ((lcat 24 [] [b1]).bind fun b2 =>
    (groatref16_Without.l1 n v0 (IntKind.wrap IntKind.i64 (v1 + 1)) v2 v3 v4 v5 b2)))
   else (groatref16_Without.l0 n v0 (IntKind.wrap IntKind.i64 (v1 + 1)) v2 v3 v4 v5)))
  else (some ((v5, [])))) := by kernel_rfl
-- the loop at region 3
theorem groatref16_Without.l1_eq (n : Nat) (v0 : Int) (v1 : Int) (v2 : ByteArray) (v3 : List ((Int × ByteArray))) (v4 : ByteArray) (v5 : ByteArray) (v6 : List ((Int × ByteArray))) : groatref16_Without.l1 (n + 1) v0 v1 v2 v3 v4 v5 v6 =
  (if v1 < (↑(List.length v3) : Int) then ((lget v3 v1).bind fun b3 =>
   (if ¬Prod.fst b3 = v0 then ((lget v3 v1).bind fun b4 =>
    ((lcat 24 v6 [b4]).bind fun b5 =>
    (groatref16_Without.l1 n v0 (IntKind.wrap IntKind.i64 (v1 + 1)) v2 v3 v4 v5 b5)))
   else (groatref16_Without.l1 n v0 (IntKind.wrap IntKind.i64 (v1 + 1)) v2 v3 v4 v5 v6)))
  else (some ((v5, v6)))) := by kernel_rfl
theorem groatref16_Without.eq (n : Nat) (a0 : ByteArray) (a1 : List ((Int × ByteArray))) (a2 : Int) : call groatref16_Without.C Try.f24 groatref16_Without.code groatref16_Without.sg groatref16_Without.rs n ((a0, a1), a2) =
  (groatref16_Without.l0 n a2 0 a0 a1 (ByteArray.mk #[]) a0) := by kernel_rfl
def groatref16_Without.f (x : (ByteArray × List V) × Int) : Option (ByteArray × List V) := if x.1.2.length ≤ 1000000 then some (x.1.1, without x.2 x.1.2) else none
theorem groatref16_Without (t : ByteArray) (l : List V) (hl : l.length ≤ 1000000) (n : Int) : groatref16_Without.f ((t, l), n) = some (t, without n l) := if_pos hl
theorem groatref16_Without_l1 (t : ByteArray) (l : List V) (hl : l.length ≤ 1000000) (n : Int) : ∀ (m o : List V) (k i : Nat), l.drop i = m → o.length ≤ i → m.length < k → groatref16_Without.l1 k n (i : Int) t l (ByteArray.mk #[]) t o = some (t, o ++ without n m)
  | [], o, k, i, hd, ho, hk => by
    obtain ⟨k, rfl⟩ : ∃ m, k = m + 1 := ⟨k - 1, by omega⟩
    have := dropn hd
    rw [groatref16_Without.l1_eq, if_neg (by omega)]; simp [without]
  | v :: m, o, k, i, hd, ho, hk => by
    obtain ⟨k, rfl⟩ : ∃ m, k = m + 1 := ⟨k - 1, by omega⟩
    obtain ⟨h1, h2, h3, h4⟩ := dropc hd
    have hk' : m.length < k := by simp at hk; omega
    rw [groatref16_Without.l1_eq, if_pos (by omega), h4, Option.bind_some, wrap_succ (by omega), without_cons]
    by_cases c : v.1 = n
    · rw [if_neg (not_not_intro c), if_neg (not_not_intro c)]
      exact groatref16_Without_l1 t l hl n m o k (i + 1) h2 (by omega) hk'
    · rw [if_pos c, if_pos c, Option.bind_some, lcat_ok _ _ _ (by simp only [List.length_cons, List.length_nil]; omega), Option.bind_some, groatref16_Without_l1 t l hl n m (o ++ [v]) k (i + 1) h2 (by rw [List.length_append]; simp only [List.length_cons, List.length_nil]; omega) hk']
      simp
theorem groatref16_Without_l0 (t : ByteArray) (l : List V) (hl : l.length ≤ 1000000) (n : Int) : ∀ (m : List V) (k i : Nat), l.drop i = m → m.length < k → groatref16_Without.l0 k n (i : Int) t l (ByteArray.mk #[]) t = some (t, without n m)
  | [], k, i, hd, hk => by
    obtain ⟨k, rfl⟩ : ∃ m, k = m + 1 := ⟨k - 1, by omega⟩
    have := dropn hd
    rw [groatref16_Without.l0_eq, if_neg (by omega)]; rfl
  | v :: m, k, i, hd, hk => by
    obtain ⟨k, rfl⟩ : ∃ m, k = m + 1 := ⟨k - 1, by omega⟩
    obtain ⟨h1, h2, h3, h4⟩ := dropc hd
    have hk' : m.length < k := by simp at hk; omega
    rw [groatref16_Without.l0_eq, if_pos (by omega), h4, Option.bind_some, wrap_succ (by omega), without_cons]
    by_cases c : v.1 = n
    · rw [if_neg (not_not_intro c), if_neg (not_not_intro c)]
      exact groatref16_Without_l0 t l hl n m k (i + 1) h2 hk'
    · rw [if_pos c, if_pos c, Option.bind_some, lcat_ok _ _ _ (by simp), Option.bind_some]
      exact groatref16_Without_l1 t l hl n m [v] k (i + 1) h2 (by simp) hk'
noncomputable def groatref16_Without.c : Con := ⟨24, groatref16_Without.sg, groatref16_Without.rs, groatref16_Without.f⟩
theorem groatref16_Without.con : ConOk Try.prog groatref16_Without.c := walked (C := groatref16_Without.C) rfl (by kernel_rfl) (by kernel_rfl) (by kernel_rfl) rfl trivial fun ⟨⟨t, l⟩, n⟩ y h => by
  have h : groatref16_Without.f ((t, l), n) = some y := h
  unfold groatref16_Without.f at h
  split at h
  · rename_i hc
    exact ⟨l.length + 1, by rw [groatref16_Without.eq]; exact (groatref16_Without_l0 t l hc n l _ 0 rfl (by omega)).trans h⟩
  · cases h
/-! ### groatref16_With -/
@[reducible] def groatref16_With.sg : List Shp := [.a (.pair (.str) (.sl (.pair (.int .i64) (.str)))), .v (.int .i64), .v (.str)]
@[reducible] def groatref16_With.rs : Rs := .one (.a (.pair (.str) (.sl (.pair (.int .i64) (.str)))))
@[reducible] noncomputable def groatref16_With.code : Code := Try.f23.body.getD .skip
noncomputable def groatref16_With.C : Ctx := ⟨tab, [groatref16_Without.c], [], ⟨[(5, [1, 2, 6, 7, 8, 9, 10], 4)], []⟩⟩
noncomputable def groatref16_With.l0 (n : Nat) (v0 : Int) (v1 : ByteArray) (v2 : Bool) (v3 : Int) (v4 : ByteArray) (v5 : List ((Int × ByteArray))) (v6 : ByteArray) (v7 : ByteArray) (v8 : ByteArray) (v9 : List ((Int × ByteArray))) : Option ((ByteArray × List ((Int × ByteArray)))) := run groatref16_With.C (finOf groatref16_With.C Try.f23 groatref16_With.rs) n (todoAt 5 groatref16_With.code) ⟨[.junk, .int .i64 v0, .str v1, .junk, .junk, .junk, .ptr 1 0, .ptr 2 0, .ptr 3 0, .b v2, .int .i64 v3, .junk, .junk, .junk, .junk, .junk, .junk, .junk, .junk, .junk, .junk, .junk, .junk, .junk, .junk, .junk, .junk, .junk, .junk, .junk, .junk, .junk, .junk, .junk, .junk, .junk, .junk, .junk, .junk, .junk, .junk, .junk, .junk, .junk, .junk, .junk, .junk, .junk, .junk, .junk, .junk, .junk, .junk, .junk, .junk, .junk, .junk, .junk, .junk, .junk, .junk, .junk, .junk, .junk, .junk], [[.str v4, .sl none (.pair (.int .i64) (.str)) v5], [.str v6, .nilsl], [.str v7, .nilsl], [.str v8, .sl none (.pair (.int .i64) (.str)) v9]], []⟩
noncomputable def groatref16_With.l1 (n : Nat) (v0 : Int) (v1 : ByteArray) (v2 : Bool) (v3 : Int) (v4 : ByteArray) (v5 : List ((Int × ByteArray))) (v6 : ByteArray) (v7 : ByteArray) (v8 : List ((Int × ByteArray))) (v9 : ByteArray) (v10 : List ((Int × ByteArray))) : Option ((ByteArray × List ((Int × ByteArray)))) := run groatref16_With.C (finOf groatref16_With.C Try.f23 groatref16_With.rs) n (todoAt 5 groatref16_With.code) ⟨[.junk, .int .i64 v0, .str v1, .junk, .junk, .junk, .ptr 1 0, .ptr 2 0, .ptr 3 0, .b v2, .int .i64 v3, .junk, .junk, .junk, .junk, .junk, .junk, .junk, .junk, .junk, .junk, .junk, .junk, .junk, .junk, .junk, .junk, .junk, .junk, .junk, .junk, .junk, .junk, .junk, .junk, .junk, .junk, .junk, .junk, .junk, .junk, .junk, .junk, .junk, .junk, .junk, .junk, .junk, .junk, .junk, .junk, .junk, .junk, .junk, .junk, .junk, .junk, .junk, .junk, .junk, .junk, .junk, .junk, .junk, .junk], [[.str v4, .sl none (.pair (.int .i64) (.str)) v5], [.str v6, .nilsl], [.str v7, .sl (some 0) (.pair (.int .i64) (.str)) v8], [.str v9, .sl none (.pair (.int .i64) (.str)) v10]], [true]⟩
-- the loop at region 5
theorem groatref16_With.l0_eq (n : Nat) (v0 : Int) (v1 : ByteArray) (v2 : Bool) (v3 : Int) (v4 : ByteArray) (v5 : List ((Int × ByteArray))) (v6 : ByteArray) (v7 : ByteArray) (v8 : ByteArray) (v9 : List ((Int × ByteArray))) : groatref16_With.l0 (n + 1) v0 v1 v2 v3 v4 v5 v6 v7 v8 v9 =
  (if v3 < (↑(List.length v9) : Int) then (if ¬v2 = true then ((lget v9 v3).bind fun b1 =>
    (if Prod.fst b1 > v0 then ((lcat 24 [] [(v0, v1)]).bind fun b2 =>
     ((lget v9 v3).bind fun b3 =>
     ((lcat 24 b2 [b3]).bind fun b4 =>
     (groatref16_With.l1 n v0 v1 true (IntKind.wrap IntKind.i64 (v3 + 1)) v4 v5 v6 v7 b4 v8 v9))))
    else ((lget v9 v3).bind fun b5 =>
     ((lcat 24 [] [b5]).bind fun b6 =>
     (groatref16_With.l1 n v0 v1 (decide (v2 = true)) (IntKind.wrap IntKind.i64 (v3 + 1)) v4 v5 v6 v7 b6 v8 v9)))))
   else ((lget v9 v3).bind fun b7 =>
    ((lcat 24 [] [b7]).bind fun b8 =>
    (groatref16_With.l1 n v0 v1 (decide (v2 = true)) (IntKind.wrap IntKind.i64 (v3 + 1)) v4 v5 v6 v7 b8 v8 v9))))
  else (if ¬v2 = true then ((lcat 24 [] [(v0, v1)]).bind fun b9 =>
    (some ((v7, b9))))
   else (some ((v7, []))))) := by kernel_rfl
-- the loop at region 5
theorem groatref16_With.l1_eq (n : Nat) (v0 : Int) (v1 : ByteArray) (v2 : Bool) (v3 : Int) (v4 : ByteArray) (v5 : List ((Int × ByteArray))) (v6 : ByteArray) (v7 : ByteArray) (v8 : List ((Int × ByteArray))) (v9 : ByteArray) (v10 : List ((Int × ByteArray))) : groatref16_With.l1 (n + 1) v0 v1 v2 v3 v4 v5 v6 v7 v8 v9 v10 =
  (if v3 < (↑(List.length v10) : Int) then (if ¬v2 = true then ((lget v10 v3).bind fun b10 =>
    (if Prod.fst b10 > v0 then ((lcat 24 v8 [(v0, v1)]).bind fun b11 =>
     ((lget v10 v3).bind fun b12 =>
     ((lcat 24 b11 [b12]).bind fun b13 =>
     (groatref16_With.l1 n v0 v1 true (IntKind.wrap IntKind.i64 (v3 + 1)) v4 v5 v6 v7 b13 v9 v10))))
    else ((lget v10 v3).bind fun b14 =>
     ((lcat 24 v8 [b14]).bind fun b15 =>
     (groatref16_With.l1 n v0 v1 (decide (v2 = true)) (IntKind.wrap IntKind.i64 (v3 + 1)) v4 v5 v6 v7 b15 v9 v10)))))
   else ((lget v10 v3).bind fun b16 =>
    ((lcat 24 v8 [b16]).bind fun b17 =>
    (groatref16_With.l1 n v0 v1 (decide (v2 = true)) (IntKind.wrap IntKind.i64 (v3 + 1)) v4 v5 v6 v7 b17 v9 v10))))
  else (if ¬v2 = true then ((lcat 24 v8 [(v0, v1)]).bind fun b18 =>
    (some ((v7, b18))))
   else (some ((v7, v8))))) := by kernel_rfl
theorem groatref16_With.eq (n : Nat) (a0 : ByteArray) (a1 : List ((Int × ByteArray))) (a2 : Int) (a3 : ByteArray) : call groatref16_With.C Try.f23 groatref16_With.code groatref16_With.sg groatref16_With.rs n ((a0, a1), (a2, a3)) =
  ((groatref16_Without.f ((a0, a1), a2)).bind fun b0 =>
  (groatref16_With.l0 n a2 a3 false 0 a0 a1 (ByteArray.mk #[]) a0 (Prod.fst b0) (Prod.snd b0))) := by kernel_rfl
def groatref16_With.f (x : (ByteArray × List V) × Int × ByteArray) : Option (ByteArray × List V) := if x.1.2.length ≤ 1000000 then some (x.1.1, withV x.2.1 x.2.2 x.1.2) else none
theorem groatref16_With (t : ByteArray) (l : List V) (hl : l.length ≤ 1000000) (n : Int) (x : ByteArray) : groatref16_With.f ((t, l), n, x) = some (t, withV n x l) := if_pos hl
theorem groatref16_With_l1t (n : Int) (x t : ByteArray) (z : List V) (l : List V) (hl : l.length ≤ 1000000) : ∀ (m o : List V) (k i : Nat), l.drop i = m → o.length ≤ i + 1 → m.length < k → groatref16_With.l1 k n x true (i : Int) t z (ByteArray.mk #[]) t o t l = some (t, o ++ m)
  | [], o, k, i, hd, ho, hk => by
    obtain ⟨k, rfl⟩ : ∃ m, k = m + 1 := ⟨k - 1, by omega⟩
    have := dropn hd
    rw [groatref16_With.l1_eq, if_neg (by omega), if_neg (by simp)]; simp
  | v :: m, o, k, i, hd, ho, hk => by
    obtain ⟨k, rfl⟩ : ∃ m, k = m + 1 := ⟨k - 1, by omega⟩
    obtain ⟨h1, h2, h3, h4⟩ := dropc hd
    have hk' : m.length < k := by simp at hk; omega
    rw [groatref16_With.l1_eq, if_pos (by omega), if_neg (by simp), h4, Option.bind_some, wrap_succ (by omega), lcat_ok _ _ _ (by simp only [List.length_cons, List.length_nil]; omega), Option.bind_some]
    have := groatref16_With_l1t n x t z l hl m (o ++ [v]) k (i + 1) h2 (by rw [List.length_append]; simp only [List.length_cons, List.length_nil]; omega) hk'
    rw [List.append_assoc] at this
    exact this
theorem groatref16_With_l1f (n : Int) (x t : ByteArray) (z : List V) (l : List V) (hl : l.length ≤ 1000000) : ∀ (m o : List V) (k i : Nat), l.drop i = m → o.length ≤ i ∧ i ≤ l.length → m.length < k → groatref16_With.l1 k n x false (i : Int) t z (ByteArray.mk #[]) t o t l = some (t, o ++ insV n x m)
  | [], o, k, i, hd, ho, hk => by
    obtain ⟨k, rfl⟩ : ∃ m, k = m + 1 := ⟨k - 1, by omega⟩
    have := dropn hd
    rw [groatref16_With.l1_eq, if_neg (by omega), if_pos (by simp), lcat_ok _ _ _ (by simp only [List.length_cons, List.length_nil]; omega), Option.bind_some]; rfl
  | v :: m, o, k, i, hd, ho, hk => by
    obtain ⟨k, rfl⟩ : ∃ m, k = m + 1 := ⟨k - 1, by omega⟩
    obtain ⟨h1, h2, h3, h4⟩ := dropc hd
    have hk' : m.length < k := by simp at hk; omega
    rw [groatref16_With.l1_eq, if_pos (by omega), if_pos (by simp), h4, Option.bind_some, wrap_succ (by omega), insV]
    by_cases c : n < v.1
    · rw [if_pos c, if_pos c, lcat_ok _ _ _ (by simp only [List.length_cons, List.length_nil]; omega), Option.bind_some, Option.bind_some, lcat_ok _ _ _ (by rw [List.length_append]; simp only [List.length_cons, List.length_nil]; omega), Option.bind_some]
      have := groatref16_With_l1t n x t z l hl m (o ++ [(n, x)] ++ [v]) k (i + 1) h2 (by rw [List.length_append, List.length_append]; simp only [List.length_cons, List.length_nil]; omega) hk'
      rw [this]; simp
    · rw [if_neg c, if_neg c, Option.bind_some, lcat_ok _ _ _ (by simp only [List.length_cons, List.length_nil]; omega), Option.bind_some]
      have := groatref16_With_l1f n x t z l hl m (o ++ [v]) k (i + 1) h2 (by rw [List.length_append]; simp only [List.length_cons, List.length_nil]; omega) hk'
      rw [List.append_assoc] at this
      exact this
theorem groatref16_With_l0 (n : Int) (x t : ByteArray) (z : List V) (l : List V) (hl : l.length ≤ 1000000) : ∀ (k : Nat), l.length < k → groatref16_With.l0 k n x false 0 t z (ByteArray.mk #[]) t t l = some (t, insV n x l) := fun k hk => by
  obtain ⟨k, rfl⟩ : ∃ m, k = m + 1 := ⟨k - 1, by omega⟩
  cases hc : l with
  | nil => rw [groatref16_With.l0_eq, if_neg (by simp), if_pos (by simp), lcat_ok _ _ _ (by simp), Option.bind_some]; rfl
  | cons v m =>
    have hd : l.drop 0 = v :: m := hc
    obtain ⟨h1, h2, h3, h4⟩ := dropc hd
    have h4 : lget l 0 = some v := h4
    have hk' : m.length < k := by omega
    rw [← hc, groatref16_With.l0_eq, if_pos (by omega), if_pos (by simp), h4, Option.bind_some, show (0 : Int) + 1 = ((1 : Nat) : Int) from rfl, wrap_nat (by omega), hc, insV, ← hc]
    by_cases c : n < v.1
    · rw [if_pos c, if_pos c, lcat_ok _ _ _ (by simp), Option.bind_some, Option.bind_some, lcat_ok _ _ _ (by simp), Option.bind_some]
      refine (groatref16_With_l1t n x t z l hl m [(n, x), v] k 1 h2 (by simp) hk').trans ?_
      rw [hc]; rfl
    · rw [if_neg c, if_neg c, Option.bind_some, lcat_ok _ _ _ (by simp), Option.bind_some]
      refine (groatref16_With_l1f n x t z l hl m [v] k 1 h2 ⟨by simp, h1⟩ hk').trans ?_
      rfl
noncomputable def groatref16_With.c : Con := ⟨23, groatref16_With.sg, groatref16_With.rs, groatref16_With.f⟩
theorem groatref16_With.con : ConOk Try.prog groatref16_With.c := walked (C := groatref16_With.C) rfl (by kernel_rfl) (by kernel_rfl) (by kernel_rfl) rfl ⟨groatref16_Without.con, trivial⟩ fun ⟨⟨t, l⟩, n, x⟩ y h => by
  have h : groatref16_With.f ((t, l), n, x) = some y := h
  unfold groatref16_With.f at h
  split at h
  · rename_i hc
    dsimp only at hc
    have hw := without_length n l
    refine ⟨l.length + 1, ?_⟩
    rw [groatref16_With.eq, groatref16_Without t l hc, Option.bind_some]
    exact (groatref16_With_l0 n x t l (without n l) (by omega) _ (by omega)).trans h
  · cases h
end Go.Proofs.Ytkhmdcllookjkaa.Xe
