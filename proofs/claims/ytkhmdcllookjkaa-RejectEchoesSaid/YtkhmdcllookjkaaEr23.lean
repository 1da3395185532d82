/- What the reference's functions on refusals answer. -/
import Derived.Test.YtkhmdcllookjkaaErk2
import Derived.Test.YtkhmdcllookjkaaErc
import Derived.Test.YtkhmdcllookjkaaEr13
namespace Go.Proofs.Ytkhmdcllookjkaa.Xe
open Go Go.RowKit Go.Proofs.Ytkhmdcllookjkaa.Sp
set_option linter.unusedVariables false
set_option linter.unusedSimpArgs false
set_option maxRecDepth 100000
/-! ### groatref23_find -/
@[reducible] def groatref23_find.sg : List Shp := [.v (.sl (.pair (.int .i64) (.str))), .v (.int .i64), .v (.int .i64)]
@[reducible] def groatref23_find.rs : Rs := .one (.v (.int .i64))
@[reducible] noncomputable def groatref23_find.code : Code := Try.f59.body.getD .skip
noncomputable def groatref23_find.C : Ctx := ⟨tab, [], [], ⟨[(2, [0, 1, 2, 7], 0)], []⟩⟩
noncomputable def groatref23_find.l0 (n : Nat) (v0 : List ((Int × ByteArray))) (v1 : Int) (v2 : Int) (v3 : Int) : Option Int := run groatref23_find.C (finOf groatref23_find.C Try.f59 groatref23_find.rs) n (todoAt 2 groatref23_find.code) ⟨[.sl none (.pair (.int .i64) (.str)) v0, .int .i64 v1, .int .i64 v2, .junk, .junk, .junk, .junk, .int .i64 v3, .junk, .junk, .junk, .junk, .junk, .junk, .junk, .junk, .junk, .junk, .junk, .junk, .junk], [], []⟩
-- the loop at region 2
theorem groatref23_find.l0_eq (n : Nat) (v0 : List ((Int × ByteArray))) (v1 : Int) (v2 : Int) (v3 : Int) : groatref23_find.l0 (n + 1) v0 v1 v2 v3 =
  (if v3 < v1 then ((lget v0 v3).bind fun b0 =>
   (if Prod.fst b0 = v2 then (some v3)
   else (groatref23_find.l0 n v0 v1 v2 (IntKind.wrap IntKind.i64 (v3 + 1)))))
  else (some (-1))) := by kernel_rfl
theorem groatref23_find.eq (n : Nat) (a0 : List ((Int × ByteArray))) (a1 : Int) (a2 : Int) : call groatref23_find.C Try.f59 groatref23_find.code groatref23_find.sg groatref23_find.rs n (a0, (a1, a2)) =
  (groatref23_find.l0 n a0 a1 a2 0) := by kernel_rfl
def groatref23_find.f (x : List V × Int × Int) : Option Int := if 0 ≤ x.2.1 ∧ x.2.1 ≤ (x.1.length : Int) ∧ x.1.length ≤ 1000000 then some (findV x.2.2 0 (x.1.take x.2.1.toNat)) else none
theorem groatref23_find (l : List V) (hl : l.length ≤ 1000000) (c : Nat) (hc : c ≤ l.length) (n : Int) : groatref23_find.f (l, (c : Int), n) = some (findV n 0 (l.take c)) := if_pos ⟨by dsimp only; omega, by dsimp only; omega, hl⟩
theorem groatref23_find_l (l : List V) (hl : l.length ≤ 1000000) (c : Nat) (hc : c ≤ l.length) (n : Int) : ∀ (m : List V) (k i : Nat), (l.take c).drop i = m → m.length < k → groatref23_find.l0 k l (c : Int) n (i : Int) = some (findV n i m)
  | [], k, i, hd, hk => by
    obtain ⟨k, rfl⟩ : ∃ m, k = m + 1 := ⟨k - 1, by omega⟩
    have := dropn hd
    rw [List.length_take] at this
    rw [groatref23_find.l0_eq, if_neg (by omega)]; rfl
  | v :: m, k, i, hd, hk => by
    obtain ⟨k, rfl⟩ : ∃ m, k = m + 1 := ⟨k - 1, by omega⟩
    obtain ⟨e1, e2, e3, e4⟩ := dropc hd
    rw [List.length_take] at e1
    have e5 : lget l (i : Int) = some v := by
      have hh : i < l.length := by omega
      rw [lget_nat _ _ (by rw [List.length_take]; omega), List.getElem_take] at e4
      rw [lget_nat _ _ hh]; exact e4
    have hk' : m.length < k := by simp at hk; omega
    rw [groatref23_find.l0_eq, if_pos (by omega), e5, Option.bind_some, wrap_succ (by omega), groatref23_find_l l hl c hc n m k (i + 1) e2 hk', findV]
    split <;> rfl
noncomputable def groatref23_find.c : Con := ⟨59, groatref23_find.sg, groatref23_find.rs, groatref23_find.f⟩
theorem groatref23_find.con : ConOk Try.prog groatref23_find.c := walked (C := groatref23_find.C) rfl (by kernel_rfl) (by kernel_rfl) (by kernel_rfl) rfl trivial fun ⟨l, c, n⟩ y h => by
  have h : groatref23_find.f (l, c, n) = some y := h
  unfold groatref23_find.f at h
  split at h
  · rename_i hc
    dsimp only at hc h
    obtain ⟨c, rfl⟩ := Int.eq_ofNat_of_zero_le hc.1
    exact ⟨c + 1, by rw [groatref23_find.eq]; exact (groatref23_find_l l hc.2.2 c (by omega) n _ _ 0 rfl (by rw [List.drop_zero, List.length_take]; omega)).trans h⟩
  · cases h
/-! ### groatref23_Code -/
@[reducible] def groatref23_Code.sg : List Shp := [.a (.pair (.pair (.int .i64) (.pair (.int .i64) (.sl (.pair (.int .i64) (.pair (.int .i64) (.pair (.int .i64) (.pair (.int .i64) (.int .i64)))))))) (.pair (.pair (.sl (.pair (.str) (.str))) (.sl (.pair (.int .i64) (.pair (.int .i64) (.pair (.int .i64) (.pair (.str) (.sl (.pair (.str) (.str))))))))) (.pair (.sl (.int .i64)) (.sl (.pair (.int .i64) (.str)))))), .v (.int .i64)]
@[reducible] def groatref23_Code.rs : Rs := .one (.v (.str))
@[reducible] noncomputable def groatref23_Code.code : Code := Try.f37.body.getD .skip
noncomputable def groatref23_Code.C : Ctx := ⟨tab, [groatref23_find.c], [], ⟨[], []⟩⟩
theorem groatref23_Code.eq (n : Nat) (a0 : Int) (a1 : Int) (a2 : List ((Int × (Int × (Int × (Int × Int)))))) (a3 : List ((ByteArray × ByteArray))) (a4 : List ((Int × (Int × (Int × (ByteArray × List ((ByteArray × ByteArray)))))))) (a5 : List Int) (a6 : List ((Int × ByteArray))) (a7 : Int) : call groatref23_Code.C Try.f37 groatref23_Code.code groatref23_Code.sg groatref23_Code.rs n (((a0, (a1, a2)), ((a3, a4), (a5, a6))), a7) =
  ((groatref23_find.f (a6, (↑(List.length a6) : Int), a7)).bind fun b0 =>
  (if b0 < 0 then ((groatref23_find.f (a6, (↑(List.length a6) : Int), 0)).bind fun b1 =>
   (if b1 < 0 then (some (ByteArray.mk #[]))
   else ((lget a6 b1).bind fun b2 =>
    (some (Prod.snd b2)))))
  else (if b0 < 0 then (some (ByteArray.mk #[]))
   else ((lget a6 b0).bind fun b3 =>
    (some (Prod.snd b3)))))) := by kernel_rfl
noncomputable def groatref23_Code.f : El (sgTy groatref23_Code.sg) → Option (El groatref23_Code.rs.ty) := fun x => match x with
  | (((a0, (a1, a2)), ((a3, a4), (a5, a6))), a7) =>
  ((groatref23_find.f (a6, (↑(List.length a6) : Int), a7)).bind fun b0 =>
  (if b0 < 0 then ((groatref23_find.f (a6, (↑(List.length a6) : Int), 0)).bind fun b1 =>
   (if b1 < 0 then (some (ByteArray.mk #[]))
   else ((lget a6 b1).bind fun b2 =>
    (some (Prod.snd b2)))))
  else (if b0 < 0 then (some (ByteArray.mk #[]))
   else ((lget a6 b0).bind fun b3 =>
    (some (Prod.snd b3))))))
noncomputable def groatref23_Code.c : Con := ⟨37, groatref23_Code.sg, groatref23_Code.rs, groatref23_Code.f⟩
theorem groatref23_Code.con : ConOk Try.prog groatref23_Code.c := walked (C := groatref23_Code.C) rfl (by kernel_rfl) (by kernel_rfl) (by kernel_rfl) rfl ⟨groatref23_find.con, trivial⟩ fun ⟨⟨⟨a0, ⟨a1, a2⟩⟩, ⟨⟨a3, a4⟩, ⟨a5, a6⟩⟩⟩, a7⟩ y h => ⟨0, (groatref23_Code.eq 0 a0 a1 a2 a3 a4 a5 a6 a7).trans h⟩
theorem groatref23_Code (s : Int × Int × List S5) (c : RC) (e : List Int) (l : List V) (hl : l.length ≤ 1000000) (n : Int) : groatref23_Code.f ((s, c, e, l), n) = some (codeV n l) := by
  obtain ⟨q1, q2, s⟩ := s
  obtain ⟨c1, c2⟩ := c
  have f1 := groatref23_find l hl l.length (Nat.le_refl _) n
  have f2 := groatref23_find l hl l.length (Nat.le_refl _) 0
  rw [List.take_length] at f1 f2
  simp only [groatref23_Code.f]
  rw [f1, Option.bind_some]
  unfold codeV
  rcases findV_get n l 0 with ⟨h1, h2⟩ | ⟨k, h1, h2, h3⟩
  · rw [if_pos h1, f2, Option.bind_some, h2, if_neg (show ¬ (sb [], false).2 = true from fun e => by cases e)]
    rcases findV_get 0 l 0 with ⟨g1, g2⟩ | ⟨j, g1, g2, g3⟩
    · rw [if_pos g1, g2]; rfl
    · rw [g1, g3, if_neg (show ¬ ((0 + j : Nat) : Int) < 0 by omega), Nat.zero_add, lget_nat _ _ g2]; rfl
  · rw [h1, h3, if_neg (show ¬ ((0 + k : Nat) : Int) < 0 by omega), if_neg (show ¬ ((0 + k : Nat) : Int) < 0 by omega), Nat.zero_add, lget_nat _ _ h2, if_pos rfl]; rfl
/-! ### groatref23_Great -/
@[reducible] def groatref23_Great.sg : List Shp := [.a (.pair (.pair (.int .i64) (.pair (.int .i64) (.sl (.pair (.int .i64) (.pair (.int .i64) (.pair (.int .i64) (.pair (.int .i64) (.int .i64)))))))) (.pair (.pair (.sl (.pair (.str) (.str))) (.sl (.pair (.int .i64) (.pair (.int .i64) (.pair (.int .i64) (.pair (.str) (.sl (.pair (.str) (.str))))))))) (.pair (.sl (.int .i64)) (.sl (.pair (.int .i64) (.str))))))]
@[reducible] def groatref23_Great.rs : Rs := .one (.v (.bool))
@[reducible] noncomputable def groatref23_Great.code : Code := Try.f32.body.getD .skip
noncomputable def groatref23_Great.C : Ctx := ⟨tab, [], [], ⟨[(4, [1, 3], 1)], []⟩⟩
noncomputable def groatref23_Great.l0 (n : Nat) (v0 : Int) (v1 : Int) (v2 : Int) (v3 : List ((Int × (Int × (Int × (Int × Int)))))) (v4 : List ((ByteArray × ByteArray))) (v5 : List ((Int × (Int × (Int × (ByteArray × List ((ByteArray × ByteArray)))))))) (v6 : List Int) (v7 : List ((Int × ByteArray))) : Option Bool := run groatref23_Great.C (finOf groatref23_Great.C Try.f32 groatref23_Great.rs) n (todoAt 4 groatref23_Great.code) ⟨[.junk, .ptr 0 0, .junk, .int .i64 v0, .junk, .junk, .junk, .junk, .junk, .junk, .junk, .junk, .junk, .junk, .junk, .junk, .junk, .junk, .junk, .junk, .junk, .junk, .junk, .junk, .junk, .junk, .junk, .junk, .junk, .junk, .junk, .junk, .junk, .junk, .junk, .junk], [[.int .i64 v1, .int .i64 v2, .sl none (.pair (.int .i64) (.pair (.int .i64) (.pair (.int .i64) (.pair (.int .i64) (.int .i64))))) v3, .sl none (.pair (.str) (.str)) v4, .sl none (.pair (.int .i64) (.pair (.int .i64) (.pair (.int .i64) (.pair (.str) (.sl (.pair (.str) (.str))))))) v5, .sl none (.int .i64) v6, .sl none (.pair (.int .i64) (.str)) v7]], []⟩
-- the loop at region 4
theorem groatref23_Great.l0_eq (n : Nat) (v0 : Int) (v1 : Int) (v2 : Int) (v3 : List ((Int × (Int × (Int × (Int × Int)))))) (v4 : List ((ByteArray × ByteArray))) (v5 : List ((Int × (Int × (Int × (ByteArray × List ((ByteArray × ByteArray)))))))) (v6 : List Int) (v7 : List ((Int × ByteArray))) : groatref23_Great.l0 (n + 1) v0 v1 v2 v3 v4 v5 v6 v7 =
  (if v0 < (↑(List.length v7) : Int) then ((lget v7 v0).bind fun b0 =>
   (if (↑(ByteArray.size (Prod.snd b0)) : Int) > 1200 then (some true)
   else (groatref23_Great.l0 n (IntKind.wrap IntKind.i64 (v0 + 1)) v1 v2 v3 v4 v5 v6 v7)))
  else (some false)) := by kernel_rfl
theorem groatref23_Great.eq (n : Nat) (a0 : Int) (a1 : Int) (a2 : List ((Int × (Int × (Int × (Int × Int)))))) (a3 : List ((ByteArray × ByteArray))) (a4 : List ((Int × (Int × (Int × (ByteArray × List ((ByteArray × ByteArray)))))))) (a5 : List Int) (a6 : List ((Int × ByteArray))) : call groatref23_Great.C Try.f32 groatref23_Great.code groatref23_Great.sg groatref23_Great.rs n ((a0, (a1, a2)), ((a3, a4), (a5, a6))) =
  (if (↑(List.length a2) : Int) > 200 then (some true)
  else (if (↑(List.length a5) : Int) > 300 then (some true)
   else (if (↑(List.length a6) : Int) > 300 then (some true)
    else (groatref23_Great.l0 n 0 a0 a1 a2 a3 a4 a5 a6)))) := by kernel_rfl
def groatref23_Great.f (x : RJ) : Option Bool := some (greatR x)
theorem groatref23_Great_l (q1 q2 : Int) (s : List S5) (c1 : List (ByteArray × ByteArray)) (c2 : List (Int × Int × Int × ByteArray × List (ByteArray × ByteArray))) (e : List Int) (l : List V) (hl : l.length ≤ 300) : ∀ (m : List V) (k i : Nat), l.drop i = m → m.length < k → groatref23_Great.l0 k (i : Int) q1 q2 s c1 c2 e l = some (m.any fun v => decide (1200 < v.2.size))
  | [], k, i, hd, hk => by
    obtain ⟨k, rfl⟩ : ∃ m, k = m + 1 := ⟨k - 1, by omega⟩
    have := dropn hd
    rw [groatref23_Great.l0_eq, if_neg (by omega)]; rfl
  | v :: m, k, i, hd, hk => by
    obtain ⟨k, rfl⟩ : ∃ m, k = m + 1 := ⟨k - 1, by omega⟩
    obtain ⟨e1, e2, e3, e4⟩ := dropc hd
    have hk' : m.length < k := by simp at hk; omega
    rw [groatref23_Great.l0_eq, if_pos (by omega), e4, Option.bind_some, wrap_succ (by omega), groatref23_Great_l q1 q2 s c1 c2 e l hl m k (i + 1) e2 hk', List.any_cons]
    by_cases c : 1200 < v.2.size
    · rw [if_pos (by omega), decide_eq_true c]; rfl
    · rw [if_neg (by omega), decide_eq_false c]; rfl
theorem groatref23_Great (x : RJ) : groatref23_Great.f x = some (greatR x) := rfl
theorem groatref23_Great.run (q1 q2 : Int) (s : List S5) (c1 : List (ByteArray × ByteArray)) (c2 : List (Int × Int × Int × ByteArray × List (ByteArray × ByteArray))) (e : List Int) (l : List V) : call groatref23_Great.C Try.f32 groatref23_Great.code groatref23_Great.sg groatref23_Great.rs (l.length + 1) ((q1, q2, s), (c1, c2), e, l) = some (greatR ((q1, q2, s), (c1, c2), e, l)) := by
  rw [groatref23_Great.eq, greatR]
  dsimp only
  by_cases k1 : (s.length : Int) > 200
  · rw [if_pos k1, decide_eq_true (by omega : 200 < s.length)]; rfl
  rw [if_neg k1, decide_eq_false (by omega : ¬ 200 < s.length), Bool.false_or]
  by_cases k2 : (e.length : Int) > 300
  · rw [if_pos k2, decide_eq_true (by omega : 300 < e.length)]; rfl
  rw [if_neg k2, decide_eq_false (by omega : ¬ 300 < e.length), Bool.false_or]
  by_cases k3 : (l.length : Int) > 300
  · rw [if_pos k3, decide_eq_true (by omega : 300 < l.length)]; rfl
  rw [if_neg k3, decide_eq_false (by omega : ¬ 300 < l.length), Bool.false_or]
  exact groatref23_Great_l q1 q2 s c1 c2 e l (by omega) l _ 0 rfl (by omega)
noncomputable def groatref23_Great.c : Con := ⟨32, groatref23_Great.sg, groatref23_Great.rs, groatref23_Great.f⟩
theorem groatref23_Great.con : ConOk Try.prog groatref23_Great.c := walked (C := groatref23_Great.C) rfl (by kernel_rfl) (by kernel_rfl) (by kernel_rfl) rfl trivial fun ⟨⟨q1, q2, s⟩, ⟨c1, c2⟩, e, l⟩ y h => ⟨_, (groatref23_Great.run q1 q2 s c1 c2 e l).trans h⟩
/-! ### groatref23_Copy -/
@[reducible] def groatref23_Copy.sg : List Shp := [.a (.pair (.pair (.int .i64) (.pair (.int .i64) (.sl (.pair (.int .i64) (.pair (.int .i64) (.pair (.int .i64) (.pair (.int .i64) (.int .i64)))))))) (.pair (.pair (.sl (.pair (.str) (.str))) (.sl (.pair (.int .i64) (.pair (.int .i64) (.pair (.int .i64) (.pair (.str) (.sl (.pair (.str) (.str))))))))) (.pair (.sl (.int .i64)) (.sl (.pair (.int .i64) (.str))))))]
@[reducible] def groatref23_Copy.rs : Rs := .one (.a (.pair (.pair (.int .i64) (.pair (.int .i64) (.sl (.pair (.int .i64) (.pair (.int .i64) (.pair (.int .i64) (.pair (.int .i64) (.int .i64)))))))) (.pair (.pair (.sl (.pair (.str) (.str))) (.sl (.pair (.int .i64) (.pair (.int .i64) (.pair (.int .i64) (.pair (.str) (.sl (.pair (.str) (.str))))))))) (.pair (.sl (.int .i64)) (.sl (.pair (.int .i64) (.str)))))))
@[reducible] noncomputable def groatref23_Copy.code : Code := Try.f34.body.getD .skip
noncomputable def groatref23_Copy.C : Ctx := ⟨tab, [groatref13_Copy.c], [], ⟨[], []⟩⟩
theorem groatref23_Copy.eq (n : Nat) (a0 : Int) (a1 : Int) (a2 : List ((Int × (Int × (Int × (Int × Int)))))) (a3 : List ((ByteArray × ByteArray))) (a4 : List ((Int × (Int × (Int × (ByteArray × List ((ByteArray × ByteArray)))))))) (a5 : List Int) (a6 : List ((Int × ByteArray))) : call groatref23_Copy.C Try.f34 groatref23_Copy.code groatref23_Copy.sg groatref23_Copy.rs n ((a0, (a1, a2)), ((a3, a4), (a5, a6))) =
  ((groatref13_Copy.f (a0, a1, a2)).bind fun b0 =>
  ((lcat 8 [] a5).bind fun b1 =>
  ((lcat 24 [] a6).bind fun b2 =>
  (some ((b0, (a3, a4), b1, b2)))))) := by kernel_rfl
noncomputable def groatref23_Copy.f : El (sgTy groatref23_Copy.sg) → Option (El groatref23_Copy.rs.ty) := fun x => match x with
  | ((a0, (a1, a2)), ((a3, a4), (a5, a6))) =>
  ((groatref13_Copy.f (a0, a1, a2)).bind fun b0 =>
  ((lcat 8 [] a5).bind fun b1 =>
  ((lcat 24 [] a6).bind fun b2 =>
  (some ((b0, (a3, a4), b1, b2))))))
noncomputable def groatref23_Copy.c : Con := ⟨34, groatref23_Copy.sg, groatref23_Copy.rs, groatref23_Copy.f⟩
theorem groatref23_Copy.con : ConOk Try.prog groatref23_Copy.c := walked (C := groatref23_Copy.C) rfl (by kernel_rfl) (by kernel_rfl) (by kernel_rfl) rfl ⟨groatref13_Copy.con, trivial⟩ fun ⟨⟨a0, ⟨a1, a2⟩⟩, ⟨⟨a3, a4⟩, ⟨a5, a6⟩⟩⟩ y h => ⟨0, (groatref23_Copy.eq 0 a0 a1 a2 a3 a4 a5 a6).trans h⟩
theorem groatref23_Copy (x : RJ) (hs : x.1.2.2.length ≤ 1000000) (he : x.2.2.1.length ≤ 1000000) (hl : x.2.2.2.length ≤ 1000000) : groatref23_Copy.f x = some x := by
  obtain ⟨⟨q1, q2, s⟩, ⟨c1, c2⟩, e, l⟩ := x
  dsimp only at hs he hl
  simp only [groatref23_Copy.f]
  rw [groatref13_Copy q1 q2 s hs, Option.bind_some, lcat_ok _ _ _ (by simp only [List.length_nil]; omega), Option.bind_some, lcat_ok _ _ _ (by simp only [List.length_nil]; omega), Option.bind_some]; rfl
end Go.Proofs.Ytkhmdcllookjkaa.Xe
