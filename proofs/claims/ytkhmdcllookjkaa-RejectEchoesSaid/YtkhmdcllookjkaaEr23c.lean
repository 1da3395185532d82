/- What the reference's check of a way to refuse answers. -/
import Derived.Test.YtkhmdcllookjkaaEr23
namespace Go.Proofs.Ytkhmdcllookjkaa.Xe
open Go Go.RowKit Go.Proofs.Ytkhmdcllookjkaa.Sp
set_option linter.unusedVariables false
set_option linter.unusedSimpArgs false
set_option maxRecDepth 100000
/-! ### groatref23_Check -/
@[reducible] def groatref23_Check.sg : List Shp := [.a (.pair (.pair (.int .i64) (.pair (.int .i64) (.sl (.pair (.int .i64) (.pair (.int .i64) (.pair (.int .i64) (.pair (.int .i64) (.int .i64)))))))) (.pair (.pair (.sl (.pair (.str) (.str))) (.sl (.pair (.int .i64) (.pair (.int .i64) (.pair (.int .i64) (.pair (.str) (.sl (.pair (.str) (.str))))))))) (.pair (.sl (.int .i64)) (.sl (.pair (.int .i64) (.str))))))]
@[reducible] def groatref23_Check.rs : Rs := .tup [.v (.int .i64), .v (.int .i64), .v (.int .i64)]
@[reducible] noncomputable def groatref23_Check.code : Code := Try.f35.body.getD .skip
noncomputable def groatref23_Check.C : Ctx := ⟨tab, [groatref13_Right.c, groatref13_Find.c, groatref05_In.c, groatref23_find.c, groatref11_Value.c], [], ⟨[(7, [1, 5, 6], 1), (16, [1, 5, 7], 1)], []⟩⟩
noncomputable def groatref23_Check.l0 (n : Nat) (v0 : Int) (v1 : Int) (v2 : Int) (v3 : Int) (v4 : List ((Int × (Int × (Int × (Int × Int)))))) (v5 : List ((ByteArray × ByteArray))) (v6 : List ((Int × (Int × (Int × (ByteArray × List ((ByteArray × ByteArray)))))))) (v7 : List Int) (v8 : List ((Int × ByteArray))) : Option ((Int × (Int × Int))) := run groatref23_Check.C (finOf groatref23_Check.C Try.f35 groatref23_Check.rs) n (todoAt 7 groatref23_Check.code) ⟨[.junk, .ptr 0 0, .junk, .junk, .junk, .int .i64 v0, .int .i64 v1, .junk, .junk, .junk, .junk, .junk, .junk, .junk, .junk, .junk, .junk, .junk, .junk, .junk, .junk, .junk, .junk, .junk, .junk, .junk, .junk, .junk, .junk, .junk, .junk, .junk, .junk, .junk, .junk, .junk, .junk, .junk, .junk, .junk, .junk, .junk, .junk, .junk, .junk, .junk, .junk, .junk, .junk, .junk, .junk, .junk, .junk, .junk, .junk, .junk, .junk, .junk, .junk, .junk, .junk, .junk, .junk, .junk, .junk, .junk, .junk, .junk, .junk, .junk, .junk, .junk, .junk, .junk, .junk, .junk, .junk, .junk, .junk, .junk, .junk, .junk, .junk, .junk, .junk, .junk, .junk, .junk, .junk, .junk, .junk, .junk, .junk, .junk, .junk, .junk, .junk, .junk, .junk, .junk, .junk, .junk, .junk, .junk, .junk, .junk, .junk, .junk, .junk, .junk, .junk, .junk, .junk, .junk, .junk, .junk], [[.int .i64 v2, .int .i64 v3, .sl none (.pair (.int .i64) (.pair (.int .i64) (.pair (.int .i64) (.pair (.int .i64) (.int .i64))))) v4, .sl none (.pair (.str) (.str)) v5, .sl none (.pair (.int .i64) (.pair (.int .i64) (.pair (.int .i64) (.pair (.str) (.sl (.pair (.str) (.str))))))) v6, .sl none (.int .i64) v7, .sl none (.pair (.int .i64) (.str)) v8]], []⟩
noncomputable def groatref23_Check.l1 (n : Nat) (v0 : Int) (v1 : Int) (v2 : Int) (v3 : Int) (v4 : List ((Int × (Int × (Int × (Int × Int)))))) (v5 : List ((ByteArray × ByteArray))) (v6 : List ((Int × (Int × (Int × (ByteArray × List ((ByteArray × ByteArray)))))))) (v7 : List Int) (v8 : List ((Int × ByteArray))) : Option ((Int × (Int × Int))) := run groatref23_Check.C (finOf groatref23_Check.C Try.f35 groatref23_Check.rs) n (todoAt 16 groatref23_Check.code) ⟨[.junk, .ptr 0 0, .junk, .junk, .junk, .int .i64 v0, .junk, .int .i64 v1, .junk, .junk, .junk, .junk, .junk, .junk, .junk, .junk, .junk, .junk, .junk, .junk, .junk, .junk, .junk, .junk, .junk, .junk, .junk, .junk, .junk, .junk, .junk, .junk, .junk, .junk, .junk, .junk, .junk, .junk, .junk, .junk, .junk, .junk, .junk, .junk, .junk, .junk, .junk, .junk, .junk, .junk, .junk, .junk, .junk, .junk, .junk, .junk, .junk, .junk, .junk, .junk, .junk, .junk, .junk, .junk, .junk, .junk, .junk, .junk, .junk, .junk, .junk, .junk, .junk, .junk, .junk, .junk, .junk, .junk, .junk, .junk, .junk, .junk, .junk, .junk, .junk, .junk, .junk, .junk, .junk, .junk, .junk, .junk, .junk, .junk, .junk, .junk, .junk, .junk, .junk, .junk, .junk, .junk, .junk, .junk, .junk, .junk, .junk, .junk, .junk, .junk, .junk, .junk, .junk, .junk, .junk, .junk], [[.int .i64 v2, .int .i64 v3, .sl none (.pair (.int .i64) (.pair (.int .i64) (.pair (.int .i64) (.pair (.int .i64) (.int .i64))))) v4, .sl none (.pair (.str) (.str)) v5, .sl none (.pair (.int .i64) (.pair (.int .i64) (.pair (.int .i64) (.pair (.str) (.sl (.pair (.str) (.str))))))) v6, .sl none (.int .i64) v7, .sl none (.pair (.int .i64) (.str)) v8]], []⟩
-- the loop at region 7
theorem groatref23_Check.l0_eq (n : Nat) (v0 : Int) (v1 : Int) (v2 : Int) (v3 : Int) (v4 : List ((Int × (Int × (Int × (Int × Int)))))) (v5 : List ((ByteArray × ByteArray))) (v6 : List ((Int × (Int × (Int × (ByteArray × List ((ByteArray × ByteArray)))))))) (v7 : List Int) (v8 : List ((Int × ByteArray))) : groatref23_Check.l0 (n + 1) v0 v1 v2 v3 v4 v5 v6 v7 v8 =
  (if v1 < (↑(List.length v7) : Int) then ((lget v7 v1).bind fun b2 =>
   ((groatref13_Find.f ((v2, v3, v4), b2)).bind fun b3 =>
   (if b3 < 0 then (some ((9, 2, v1)))
   else ((lget v7 v1).bind fun b4 =>
    (if b4 = 39 then (some ((1, 2, v1)))
    else ((lsub v7 0 v1).bind fun b5 =>
     ((lget v7 v1).bind fun b6 =>
     ((groatref05_In.f (b5, b6)).bind fun b7 =>
     (if b7 = true then (some ((10, 2, v1)))
     else (groatref23_Check.l0 n v0 (IntKind.wrap IntKind.i64 (v1 + 1)) v2 v3 v4 v5 v6 v7 v8))))))))))
  else (groatref23_Check.l1 n v0 0 v2 v3 v4 v5 v6 v7 v8)) := by kernel_rfl
-- the loop at region 16
theorem groatref23_Check.l1_eq (n : Nat) (v0 : Int) (v1 : Int) (v2 : Int) (v3 : Int) (v4 : List ((Int × (Int × (Int × (Int × Int)))))) (v5 : List ((ByteArray × ByteArray))) (v6 : List ((Int × (Int × (Int × (ByteArray × List ((ByteArray × ByteArray)))))))) (v7 : List Int) (v8 : List ((Int × ByteArray))) : groatref23_Check.l1 (n + 1) v0 v1 v2 v3 v4 v5 v6 v7 v8 =
  (if v1 < (↑(List.length v8) : Int) then ((lget v8 v1).bind fun b8 =>
   (if Prod.fst b8 < 0 then (some ((1, 3, v1)))
   else ((lget v8 v1).bind fun b9 =>
    (if Prod.fst b9 > 16 then (some ((1, 3, v1)))
    else ((lget v8 v1).bind fun b10 =>
     ((groatref23_find.f (v8, v1, Prod.fst b10)).bind fun b11 =>
     (if b11 ≥ 0 then (some ((10, 3, v1)))
     else ((lget v4 v0).bind fun b12 =>
      ((lget v8 v1).bind fun b13 =>
      ((groatref11_Value.f (b12, Prod.snd b13)).bind fun b14 =>
      (if ¬b14 = 0 then (some ((b14, 3, v1)))
      else (groatref23_Check.l1 n v0 (IntKind.wrap IntKind.i64 (v1 + 1)) v2 v3 v4 v5 v6 v7 v8))))))))))))
  else ((groatref23_find.f (v8, (↑(List.length v8) : Int), 0)).bind fun b15 =>
   (if b15 < 0 then (some ((15, 3, (↑(List.length v8) : Int))))
   else (some ((0, 0, 0)))))) := by kernel_rfl
theorem groatref23_Check.eq (n : Nat) (a0 : Int) (a1 : Int) (a2 : List ((Int × (Int × (Int × (Int × Int)))))) (a3 : List ((ByteArray × ByteArray))) (a4 : List ((Int × (Int × (Int × (ByteArray × List ((ByteArray × ByteArray)))))))) (a5 : List Int) (a6 : List ((Int × ByteArray))) : call groatref23_Check.C Try.f35 groatref23_Check.code groatref23_Check.sg groatref23_Check.rs n ((a0, (a1, a2)), ((a3, a4), (a5, a6))) =
  ((groatref13_Right.f (a0, a1, a2)).bind fun b0 =>
  (if ¬b0 = true then (some ((1, 1, 0)))
  else ((groatref13_Find.f ((a0, a1, a2), 39)).bind fun b1 =>
   (if b1 < 0 then (some ((9, 1, 1)))
   else (groatref23_Check.l0 n b1 0 a0 a1 a2 a3 a4 a5 a6))))) := by kernel_rfl
def groatref23_Check.f (x : RJ) : Option (Int × Int × Int) := if x.1.2.2.length ≤ 1000000 ∧ x.2.2.1.length ≤ 1000000 ∧ okM x.2.2.2 then some (rejE x) else none
theorem groatref23_Check (x : RJ) (h : x.1.2.2.length ≤ 1000000 ∧ x.2.2.1.length ≤ 1000000 ∧ okM x.2.2.2) : groatref23_Check.f x = some (rejE x) := if_pos h
theorem find_take (n : Int) (l : List V) : (findV n 0 l < 0) ↔ ¬ n ∈ l.map Prod.fst := by
  have := findV_mem n l 0
  constructor
  · intro h e; have := this.2 e; omega
  · intro h
    by_cases q : findV n 0 l ≥ 0
    · exact absurd (this.1 q) h
    · omega
theorem groatref23_Check_l1 (q1 q2 : Int) (s : List S5) (c1 : List (ByteArray × ByteArray)) (c2 : List (Int × Int × Int × ByteArray × List (ByteArray × ByteArray))) (e : List Int) (l : List V) (hl : okM l) (a : Int) (p : S5) (hp : lget s a = some p) : ∀ (m : List V) (k i : Nat), l.drop i = m → (∀ v ∈ m, v.2.size ≤ 1000000000000) → m.length < k →
    groatref23_Check.l1 k a (i : Int) q1 q2 s c1 c2 e l = some (match codesE p (l.take i) i m with
      | some r => r
      | none => if (0 : Int) ∈ l.map Prod.fst then (0, 0, 0) else (15, 3, (l.length : Int)))
  | [], k, i, hd, hv, hk => by
    obtain ⟨k, rfl⟩ : ∃ m, k = m + 1 := ⟨k - 1, by omega⟩
    have := dropn hd
    have f := groatref23_find l hl.1 l.length (Nat.le_refl _) 0
    rw [List.take_length] at f
    have ft := find_take 0 l
    rw [groatref23_Check.l1_eq, if_neg (by omega), f, Option.bind_some, codesE]
    by_cases c : (0 : Int) ∈ l.map Prod.fst
    · rw [if_neg (fun q => ft.1 q c)]
      dsimp only
      rw [if_pos c]
    · rw [if_pos (ft.2 c)]
      dsimp only
      rw [if_neg c]
  | v :: m, k, i, hd, hv, hk => by
    obtain ⟨k, rfl⟩ : ∃ m, k = m + 1 := ⟨k - 1, by omega⟩
    obtain ⟨h1, h2, h3, h4⟩ := dropc hd
    have hk' : m.length < k := by simp at hk; omega
    have hl1 := hl.1
    have ih := groatref23_Check_l1 q1 q2 s c1 c2 e l hl a p hp m k (i + 1) h2 (fun w hw => hv w (List.mem_cons_of_mem _ hw)) hk'
    rw [take_snoc hd] at ih
    have hz := hv v (List.mem_cons_self ..)
    rw [size_bl] at hz
    have hsv := groatref11_Value p.1 p.2.1 p.2.2.1 p.2.2.2.1 p.2.2.2.2 (bl v.2) hz
    rw [sb_bl] at hsv
    have hsv : groatref11_Value.f (p, v.2) = some (specA p (bl v.2)) := hsv
    have fm := findV_mem v.1 (l.take i) 0
    rw [groatref23_Check.l1_eq, if_pos (by omega), h4, Option.bind_some, Option.bind_some, Option.bind_some, groatref23_find l hl1 i (by omega), Option.bind_some, hp, Option.bind_some, Option.bind_some, hsv, Option.bind_some, wrap_succ (by omega), ih, codesE]
    by_cases k0 : v.1 < 0
    · rw [if_pos k0, if_pos (.inl k0)]
    rw [if_neg k0]
    by_cases k1 : v.1 > 16
    · rw [if_pos k1, if_pos (.inr k1)]
    rw [if_neg k1, if_neg (show ¬ (v.1 < 0 ∨ 16 < v.1) by omega)]
    by_cases k2 : v.1 ∈ (l.take i).map Prod.fst
    · rw [if_pos (fm.2 k2), if_pos k2]
    rw [if_neg (fun q => k2 (fm.1 q)), if_neg k2]
    by_cases k3 : specA p (bl v.2) = 0
    · rw [if_neg (not_not_intro k3), if_neg (not_not_intro k3)]
    · rw [if_pos k3, if_pos k3]
theorem groatref23_Check_l0 (q1 q2 : Int) (s : List S5) (hs : s.length ≤ 1000000) (c1 : List (ByteArray × ByteArray)) (c2 : List (Int × Int × Int × ByteArray × List (ByteArray × ByteArray))) (e : List Int) (he : e.length ≤ 1000000) (l : List V) (a : Int) : ∀ (m : List Int) (k i : Nat), e.drop i = m →
    groatref23_Check.l0 (k + m.length + 1) a (i : Int) q1 q2 s c1 c2 e l = match echoE s (e.take i) i m with
      | some r => some r
      | none => groatref23_Check.l1 k a 0 q1 q2 s c1 c2 e l
  | [], k, i, hd => by
    have := dropn hd
    rw [groatref23_Check.l0_eq, if_neg (by omega)]; rfl
  | x :: m, k, i, hd => by
    obtain ⟨h1, h2, h3, h4⟩ := dropc hd
    have ih := groatref23_Check_l0 q1 q2 s hs c1 c2 e he l a m k (i + 1) h2
    rw [take_snoc hd] at ih
    rw [groatref23_Check.l0_eq, if_pos (by omega), h4, Option.bind_some, groatref13_Find q1 q2 s hs, Option.bind_some, Option.bind_some, lsub_take e i (by omega), Option.bind_some, Option.bind_some, groatref05_In _ (by rw [List.length_take]; omega), Option.bind_some, wrap_succ (by omega), List.length_cons, ← Nat.add_assoc k m.length 1, ih, echoE]
    rcases idxS_find x s s 0 rfl with ⟨g1, g2⟩ | ⟨g1, g2, -⟩
    · rw [if_pos g1, if_pos g2]
    rw [if_neg g1, if_neg (show ¬ (findS x s).2 = false by rw [g2]; decide)]
    by_cases k2 : x = 39
    · rw [if_pos k2, if_pos k2]
    rw [if_neg k2, if_neg k2]
    by_cases k3 : x ∈ e.take i
    · rw [if_pos (decide_eq_true k3), if_pos k3]
    · rw [if_neg (by simpa using k3), if_neg k3]
noncomputable def groatref23_Check.c : Con := ⟨35, groatref23_Check.sg, groatref23_Check.rs, groatref23_Check.f⟩
theorem groatref23_Check.con : ConOk Try.prog groatref23_Check.c := walked (C := groatref23_Check.C) rfl (by kernel_rfl) (by kernel_rfl) (by kernel_rfl) rfl ⟨groatref13_Right.con, groatref13_Find.con, groatref05_In.con, groatref23_find.con, groatref11_Value.con, trivial⟩ fun ⟨⟨q1, q2, s⟩, ⟨c1, c2⟩, e, l⟩ y h => by
  have h : groatref23_Check.f ((q1, q2, s), (c1, c2), e, l) = some y := h
  unfold groatref23_Check.f at h
  split at h
  · rename_i hc
    obtain ⟨hs, he, hl⟩ := hc
    dsimp only at hs he hl
    refine ⟨(List.length (α := V) l + 1) + List.length (α := Int) e + 1, ?_⟩
    rw [groatref23_Check.eq, groatref13_Right q1 q2 s hs, Option.bind_some, groatref13_Find q1 q2 s hs, Option.bind_some, ← h]
    unfold rejE
    dsimp only
    by_cases k1 : (schemaE (q1, q2, s)).1 = 0
    · rw [if_neg (by simpa using k1), if_neg (not_not_intro k1)]
      rcases idxS_find 39 s s 0 rfl with ⟨g1, g2⟩ | ⟨g1, g2, g3⟩
      · rw [if_pos g1, if_pos g2]
      rw [if_neg g1, if_neg (show ¬ (findS 39 s).2 = false by rw [g2]; decide)]
      have r0 := groatref23_Check_l0 q1 q2 s hs c1 c2 e he l (idxS 39 0 s) e (List.length (α := V) l + 1) 0 rfl
      have r1 := groatref23_Check_l1 q1 q2 s c1 c2 e l hl (idxS 39 0 s) (findS 39 s).1 g3 l (List.length (α := V) l + 1) 0 rfl hl.2 (by omega)
      rw [List.take_zero] at r0 r1
      refine r0.trans ?_
      cases echoE s [] 0 e with
      | some r => rfl
      | none => exact r1
    · rw [if_pos (by simpa using k1), if_pos k1]
  · cases h
/-! ### groatref23_Right -/
@[reducible] def groatref23_Right.sg : List Shp := [.a (.pair (.pair (.int .i64) (.pair (.int .i64) (.sl (.pair (.int .i64) (.pair (.int .i64) (.pair (.int .i64) (.pair (.int .i64) (.int .i64)))))))) (.pair (.pair (.sl (.pair (.str) (.str))) (.sl (.pair (.int .i64) (.pair (.int .i64) (.pair (.int .i64) (.pair (.str) (.sl (.pair (.str) (.str))))))))) (.pair (.sl (.int .i64)) (.sl (.pair (.int .i64) (.str))))))]
@[reducible] def groatref23_Right.rs : Rs := .one (.v (.bool))
@[reducible] noncomputable def groatref23_Right.code : Code := Try.f40.body.getD .skip
noncomputable def groatref23_Right.C : Ctx := ⟨tab, [groatref23_Check.c], [], ⟨[], []⟩⟩
theorem groatref23_Right.eq (n : Nat) (a0 : Int) (a1 : Int) (a2 : List ((Int × (Int × (Int × (Int × Int)))))) (a3 : List ((ByteArray × ByteArray))) (a4 : List ((Int × (Int × (Int × (ByteArray × List ((ByteArray × ByteArray)))))))) (a5 : List Int) (a6 : List ((Int × ByteArray))) : call groatref23_Right.C Try.f40 groatref23_Right.code groatref23_Right.sg groatref23_Right.rs n ((a0, (a1, a2)), ((a3, a4), (a5, a6))) =
  ((groatref23_Check.f ((a0, a1, a2), (a3, a4), a5, a6)).bind fun b0 =>
  (some (decide (Prod.fst b0 = 0)))) := by kernel_rfl
noncomputable def groatref23_Right.f : El (sgTy groatref23_Right.sg) → Option (El groatref23_Right.rs.ty) := fun x => match x with
  | ((a0, (a1, a2)), ((a3, a4), (a5, a6))) =>
  ((groatref23_Check.f ((a0, a1, a2), (a3, a4), a5, a6)).bind fun b0 =>
  (some (decide (Prod.fst b0 = 0))))
noncomputable def groatref23_Right.c : Con := ⟨40, groatref23_Right.sg, groatref23_Right.rs, groatref23_Right.f⟩
theorem groatref23_Right.con : ConOk Try.prog groatref23_Right.c := walked (C := groatref23_Right.C) rfl (by kernel_rfl) (by kernel_rfl) (by kernel_rfl) rfl ⟨groatref23_Check.con, trivial⟩ fun ⟨⟨a0, ⟨a1, a2⟩⟩, ⟨⟨a3, a4⟩, ⟨a5, a6⟩⟩⟩ y h => ⟨0, (groatref23_Right.eq 0 a0 a1 a2 a3 a4 a5 a6).trans h⟩
theorem groatref23_Right (x : RJ) (h : x.1.2.2.length ≤ 1000000 ∧ x.2.2.1.length ≤ 1000000 ∧ okM x.2.2.2) : groatref23_Right.f x = some (decide ((rejE x).1 = 0)) := by
  obtain ⟨⟨q1, q2, s⟩, ⟨c1, c2⟩, e, l⟩ := x
  simp only [groatref23_Right.f]
  rw [groatref23_Check _ h, Option.bind_some]
end Go.Proofs.Ytkhmdcllookjkaa.Xe
