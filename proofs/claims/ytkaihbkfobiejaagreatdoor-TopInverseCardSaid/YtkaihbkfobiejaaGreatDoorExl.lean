/- What the program's functions on tables, rules and maps answer. -/
import Derived.Test.YtkaihbkfobiejaaGreatDoorNgg
import Derived.Test.YtkaihbkfobiejaaGreatDoorEbu
import Derived.Test.YtkaihbkfobiejaaGreatDoorEge
import Derived.Test.YtkaihbkfobiejaaGreatDoorEga
import Derived.Test.YtkaihbkfobiejaaGreatDoorEge
namespace Go.Proofs.YtkaihbkfobiejaaGreatDoor.Xe
open Go Go.RowKit Go.Proofs.YtkaihbkfobiejaaGreatDoor.Sp
set_option linter.unusedVariables false
set_option linter.unusedSimpArgs false
set_option maxRecDepth 100000
/-! ### codes_Check -/
@[reducible] def codes_Check.sg : List Shp := [.v (.sl (.pair (.str) (.str)))]
@[reducible] def codes_Check.rs : Rs := .tup [.v (.int .i64), .v (.int .i64)]
@[reducible] noncomputable def codes_Check.code : Code := Tryz.f104.body.getD .skip
noncomputable def codes_Check.C : Ctx := ⟨tab, [], [], ⟨[(5, [4, 11, 12, 13], 1)], []⟩⟩
noncomputable def codes_Check.l0 (n : Nat) (v0 : List ((ByteArray × ByteArray))) (v1 : Int) (v2 : Int) (v3 : List ByteArray) : Option ((Int × Int)) := run codes_Check.C (finOf codes_Check.C Tryz.f104 codes_Check.rs) n (todoAt 5 codes_Check.code) ⟨[.junk, .junk, .junk, .junk, .mp 0, .junk, .junk, .junk, .junk, .junk, .junk, .sl none (.pair (.str) (.str)) v0, .int .i64 v1, .int .i64 v2, .junk, .junk, .junk, .junk, .junk, .junk, .junk, .junk, .junk, .junk, .junk, .junk, .junk], [[.keys 9 4 (.str) v3]], []⟩
-- the loop at region 5
theorem codes_Check.l0_eq (n : Nat) (v0 : List ((ByteArray × ByteArray))) (v1 : Int) (v2 : Int) (v3 : List ByteArray) : codes_Check.l0 (n + 1) v0 v1 v2 v3 =
  (if v2 < v1 then ((lget v0 v2).bind fun b0 =>
   (if ByteArray.size (Prod.fst b0) ≤ 9223372036854775807 then (if Prod.fst b0 ∈ v3 then (some ((10, v2)))
    else (if ByteArray.size (Prod.fst b0) ≤ 9223372036854775807 ∧ List.length v3 < 9223372036854775807 then (codes_Check.l0 n v0 v1 (IntKind.wrap IntKind.i64 (v2 + 1)) (v3 ++ [Prod.fst b0]))
     else none))
   else none))
  else (some ((0, 0)))) := by kernel_rfl
theorem codes_Check.eq (n : Nat) (a0 : List ((ByteArray × ByteArray))) : call codes_Check.C Tryz.f104 codes_Check.code codes_Check.sg codes_Check.rs n a0 =
  (if (↑(List.length a0) : Int) > 256 then (some ((5, 256)))
  else (codes_Check.l0 n a0 ((↑(List.length a0) : Int)) 0 [])) := by kernel_rfl
def okP (l : List PB) : Prop := l.length ≤ 100000 ∧ ∀ p ∈ l, p.1.size ≤ 1000000000000 ∧ p.2.size ≤ 1000000000000
instance (l : List PB) : Decidable (okP l) := by unfold okP; infer_instance
theorem okP.turn {l : List PB} (h : okP l) : okP (turnP l) := ⟨by unfold turnP; rw [List.length_map]; exact h.1, fun p hp => by
  unfold turnP at hp
  obtain ⟨q, hq, rfl⟩ := List.mem_map.1 hp
  exact ⟨(h.2 q hq).2, (h.2 q hq).1⟩⟩
noncomputable def codes_Check.f (l : List PB) : Option (Int × Int) := if okP l then some (pairsE l) else none
theorem codes_Check (l : List PB) (hl : okP l) : codes_Check.f l = some (pairsE l) := if_pos hl
theorem codes_Check_l (l : List PB) (hl : okP l) : ∀ (m : List PB) (seen : List ByteArray) (k i : Nat), l.drop i = m → seen.length ≤ i → m.length < k → codes_Check.l0 k l (l.length : Int) (i : Int) seen = some (pairsL m seen i)
  | [], seen, k, i, hd, hs, hk => by
    obtain ⟨k, rfl⟩ : ∃ m, k = m + 1 := ⟨k - 1, by omega⟩
    have := dropn hd
    rw [codes_Check.l0_eq, if_neg (by omega)]; rfl
  | p :: m, seen, k, i, hd, hs, hk => by
    obtain ⟨k, rfl⟩ : ∃ m, k = m + 1 := ⟨k - 1, by omega⟩
    obtain ⟨h1, h2, h3, h4⟩ := dropc hd
    have hk' : m.length < k := by simp at hk; omega
    have hl1 := hl.1
    have hp := (hl.2 p (by have := List.drop_subset i l (a := p); rw [hd] at this; exact this (List.mem_cons_self ..))).1
    rw [codes_Check.l0_eq, if_pos (by omega), h4, Option.bind_some, if_pos (by omega), if_pos (⟨by omega, by omega⟩ : p.1.size ≤ 9223372036854775807 ∧ seen.length < 9223372036854775807), wrap_succ (by omega), codes_Check_l l hl m _ k (i + 1) h2 (by rw [List.length_append, List.length_singleton]; omega) hk', pairsL]
    split <;> rfl
noncomputable def codes_Check.c : Con := ⟨104, codes_Check.sg, codes_Check.rs, codes_Check.f⟩
theorem codes_Check.con : ConOk Tryz.prog codes_Check.c := walked (C := codes_Check.C) rfl (by kernel_rfl) (by kernel_rfl) (by kernel_rfl) rfl trivial fun l y h => by
  have h : codes_Check.f l = some y := h
  unfold codes_Check.f at h
  split at h
  · rename_i hc
    refine ⟨l.length + 1, ?_⟩
    rw [codes_Check.eq, ← h, pairsE]
    by_cases c : 256 < l.length
    · rw [if_pos c, if_pos (by omega)]
    · rw [if_neg c, if_neg (by omega)]
      exact codes_Check_l l hc l [] _ 0 rfl (by simp) (by omega)
  · cases h
/-! ### codes_Apply -/
@[reducible] def codes_Apply.sg : List Shp := [.v (.sl (.pair (.str) (.str))), .v (.str)]
@[reducible] def codes_Apply.rs : Rs := .tup [.v (.str), .v (.bool)]
@[reducible] noncomputable def codes_Apply.code : Code := Tryz.f110.body.getD .skip
noncomputable def codes_Apply.C : Ctx := ⟨tab, [], [], ⟨[(2, [1, 8, 9, 10], 0)], []⟩⟩
noncomputable def codes_Apply.l0 (n : Nat) (v0 : ByteArray) (v1 : List ((ByteArray × ByteArray))) (v2 : Int) (v3 : Int) : Option ((ByteArray × Bool)) := run codes_Apply.C (finOf codes_Apply.C Tryz.f110 codes_Apply.rs) n (todoAt 2 codes_Apply.code) ⟨[.junk, .str v0, .junk, .junk, .junk, .junk, .junk, .junk, .sl none (.pair (.str) (.str)) v1, .int .i64 v2, .int .i64 v3, .junk, .junk, .junk, .junk, .junk, .junk, .junk, .junk, .junk, .junk], [], []⟩
-- the loop at region 2
theorem codes_Apply.l0_eq (n : Nat) (v0 : ByteArray) (v1 : List ((ByteArray × ByteArray))) (v2 : Int) (v3 : Int) : codes_Apply.l0 (n + 1) v0 v1 v2 v3 =
  (if v3 < v2 then ((lget v1 v3).bind fun b0 =>
   (if Prod.fst b0 = v0 then (some ((Prod.snd b0, true)))
   else (codes_Apply.l0 n v0 v1 v2 (IntKind.wrap IntKind.i64 (v3 + 1)))))
  else (some ((ByteArray.mk #[], false)))) := by kernel_rfl
theorem codes_Apply.eq (n : Nat) (a0 : List ((ByteArray × ByteArray))) (a1 : ByteArray) : call codes_Apply.C Tryz.f110 codes_Apply.code codes_Apply.sg codes_Apply.rs n (a0, a1) =
  (codes_Apply.l0 n a1 a0 ((↑(List.length a0) : Int)) 0) := by kernel_rfl
noncomputable def codes_Apply.f (x : List PB × ByteArray) : Option (ByteArray × Bool) := if okP x.1 then some (applyP x.2 x.1) else none
theorem codes_Apply (l : List PB) (hl : okP l) (t : ByteArray) : codes_Apply.f (l, t) = some (applyP t l) := if_pos hl
theorem codes_Apply_l (l : List PB) (hl : okP l) (t : ByteArray) : ∀ (m : List PB) (k i : Nat), l.drop i = m → m.length < k → codes_Apply.l0 k t l (l.length : Int) (i : Int) = some (applyP t m)
  | [], k, i, hd, hk => by
    obtain ⟨k, rfl⟩ : ∃ m, k = m + 1 := ⟨k - 1, by omega⟩
    have := dropn hd
    rw [codes_Apply.l0_eq, if_neg (by omega)]; rfl
  | p :: m, k, i, hd, hk => by
    obtain ⟨k, rfl⟩ : ∃ m, k = m + 1 := ⟨k - 1, by omega⟩
    obtain ⟨h1, h2, h3, h4⟩ := dropc hd
    have hk' : m.length < k := by simp at hk; omega
    have hl1 := hl.1
    rw [codes_Apply.l0_eq, if_pos (by omega), h4, Option.bind_some, wrap_succ (by omega), codes_Apply_l l hl t m k (i + 1) h2 hk', applyP]
    split <;> rfl
noncomputable def codes_Apply.c : Con := ⟨110, codes_Apply.sg, codes_Apply.rs, codes_Apply.f⟩
theorem codes_Apply.con : ConOk Tryz.prog codes_Apply.c := walked (C := codes_Apply.C) rfl (by kernel_rfl) (by kernel_rfl) (by kernel_rfl) rfl trivial fun ⟨l, t⟩ y h => by
  have h : codes_Apply.f (l, t) = some y := h
  unfold codes_Apply.f at h
  split at h
  · rename_i hc
    exact ⟨l.length + 1, by rw [codes_Apply.eq, ← h]; exact codes_Apply_l l hc t l _ 0 rfl (by omega)⟩
  · cases h
/-! ### class_Wider -/
@[reducible] def class_Wider.sg : List Shp := [.v (.int .i64), .v (.int .i64)]
@[reducible] def class_Wider.rs : Rs := .one (.v (.bool))
@[reducible] noncomputable def class_Wider.code : Code := Tryz.f153.body.getD .skip
noncomputable def class_Wider.C : Ctx := ⟨tab, [class_Known.c, class_sets.c], [], ⟨[], []⟩⟩
theorem class_Wider.eq (n : Nat) (a0 : Int) (a1 : Int) : call class_Wider.C Tryz.f153 class_Wider.code class_Wider.sg class_Wider.rs n (a0, a1) =
  ((class_Known.f a0).bind fun b0 =>
  (if b0 = true then ((class_Known.f a1).bind fun b1 =>
   (if b1 = true then ((class_sets.f a1).bind fun b2 =>
    ((class_sets.f a0).bind fun b3 =>
    (some (decide (bits BinOp.andNot IntKind.i64 b2 b3 = 0)))))
   else (some false)))
  else (some false))) := by kernel_rfl
noncomputable def class_Wider.f : El (sgTy class_Wider.sg) → Option (El class_Wider.rs.ty) := fun x => match x with
  | (a0, a1) =>
  ((class_Known.f a0).bind fun b0 =>
  (if b0 = true then ((class_Known.f a1).bind fun b1 =>
   (if b1 = true then ((class_sets.f a1).bind fun b2 =>
    ((class_sets.f a0).bind fun b3 =>
    (some (decide (bits BinOp.andNot IntKind.i64 b2 b3 = 0)))))
   else (some false)))
  else (some false)))
noncomputable def class_Wider.c : Con := ⟨153, class_Wider.sg, class_Wider.rs, class_Wider.f⟩
theorem class_Wider.con : ConOk Tryz.prog class_Wider.c := walked (C := class_Wider.C) rfl (by kernel_rfl) (by kernel_rfl) (by kernel_rfl) rfl ⟨class_Known.con, class_sets.con, trivial⟩ fun ⟨a0, a1⟩ y h => ⟨0, (class_Wider.eq 0 a0 a1).trans h⟩
theorem class_Wider (a b : Int) : class_Wider.f (a, b) = some (widC a b) := by
  simp only [class_Wider.f, class_Known.f, class_sets.f, Option.bind_some, widC]
  by_cases h1 : 1 ≤ a ∧ a ≤ 6
  · rw [if_pos (decide_eq_true h1), decide_eq_true h1, Bool.true_and]
    by_cases h2 : 1 ≤ b ∧ b ≤ 6
    · rw [if_pos (decide_eq_true h2), decide_eq_true h2, Bool.true_and]
      rfl
    · rw [if_neg (by simpa using h2), decide_eq_false h2]; rfl
  · rw [if_neg (by simpa using h1), decide_eq_false h1]; rfl
/-! ### spec_classes -/
@[reducible] def spec_classes.sg : List Shp := [.v (.int .i64), .v (.int .i64)]
@[reducible] def spec_classes.rs : Rs := .one (.v (.bool))
@[reducible] noncomputable def spec_classes.code : Code := Tryz.f136.body.getD .skip
noncomputable def spec_classes.C : Ctx := ⟨tab, [class_Wider.c], [], ⟨[], []⟩⟩
theorem spec_classes.eq (n : Nat) (a0 : Int) (a1 : Int) : call spec_classes.C Tryz.f136 spec_classes.code spec_classes.sg spec_classes.rs n (a0, a1) =
  (if a0 = 5 then (some true)
  else (if a0 = 6 then (some (decide (a0 = a1)))
   else (if a1 = 6 then (some (decide (a0 = a1)))
    else ((class_Wider.f (a0, a1)).bind fun b0 =>
     (some (decide (b0 = true))))))) := by kernel_rfl
noncomputable def spec_classes.f : El (sgTy spec_classes.sg) → Option (El spec_classes.rs.ty) := fun x => match x with
  | (a0, a1) =>
  (if a0 = 5 then (some true)
  else (if a0 = 6 then (some (decide (a0 = a1)))
   else (if a1 = 6 then (some (decide (a0 = a1)))
    else ((class_Wider.f (a0, a1)).bind fun b0 =>
     (some (decide (b0 = true)))))))
noncomputable def spec_classes.c : Con := ⟨136, spec_classes.sg, spec_classes.rs, spec_classes.f⟩
theorem spec_classes.con : ConOk Tryz.prog spec_classes.c := walked (C := spec_classes.C) rfl (by kernel_rfl) (by kernel_rfl) (by kernel_rfl) rfl ⟨class_Wider.con, trivial⟩ fun ⟨a0, a1⟩ y h => ⟨0, (spec_classes.eq 0 a0 a1).trans h⟩
theorem spec_classes (a b : Int) : spec_classes.f (a, b) = some (specC a b) := by
  simp only [spec_classes.f, class_Wider, Option.bind_some, specC]
  by_cases h1 : a = 5
  · rw [if_pos h1, if_pos h1]
  · rw [if_neg h1, if_neg h1]
    by_cases h2 : a = 6
    · rw [if_pos h2, if_pos (.inl h2)]; rfl
    · rw [if_neg h2]
      by_cases h3 : b = 6
      · rw [if_pos h3, if_pos (.inr h3)]; rfl
      · rw [if_neg h3, if_neg (by omega), class_Wider, Option.bind_some]
        cases widC a b <;> rfl
/-! ### spec_Wider -/
@[reducible] def spec_Wider.sg : List Shp := [.a (.pair (.int .i64) (.pair (.int .i64) (.pair (.int .i64) (.pair (.int .i64) (.int .i64))))), .a (.pair (.int .i64) (.pair (.int .i64) (.pair (.int .i64) (.pair (.int .i64) (.int .i64)))))]
@[reducible] def spec_Wider.rs : Rs := .one (.v (.bool))
@[reducible] noncomputable def spec_Wider.code : Code := Tryz.f105.body.getD .skip
noncomputable def spec_Wider.C : Ctx := ⟨tab, [spec_Check.c, spec_classes.c], [], ⟨[], []⟩⟩
theorem spec_Wider.eq (n : Nat) (a0 : Int) (a1 : Int) (a2 : Int) (a3 : Int) (a4 : Int) (a5 : Int) (a6 : Int) (a7 : Int) (a8 : Int) (a9 : Int) : call spec_Wider.C Tryz.f105 spec_Wider.code spec_Wider.sg spec_Wider.rs n ((a0, (a1, (a2, (a3, a4)))), (a5, (a6, (a7, (a8, a9))))) =
  ((spec_Check.f (a0, a1, a2, a3, a4)).bind fun b0 =>
  (if b0 = 0 then ((spec_Check.f (a5, a6, a7, a8, a9)).bind fun b1 =>
   (if b1 = 0 then (if a3 ≤ a8 then (if a4 ≥ a9 then ((spec_classes.f (a1, a6)).bind fun b2 =>
      (some (decide (b2 = true))))
     else (some false))
    else (some false))
   else (some false)))
  else (some false))) := by kernel_rfl
noncomputable def spec_Wider.f : El (sgTy spec_Wider.sg) → Option (El spec_Wider.rs.ty) := fun x => match x with
  | ((a0, (a1, (a2, (a3, a4)))), (a5, (a6, (a7, (a8, a9))))) =>
  ((spec_Check.f (a0, a1, a2, a3, a4)).bind fun b0 =>
  (if b0 = 0 then ((spec_Check.f (a5, a6, a7, a8, a9)).bind fun b1 =>
   (if b1 = 0 then (if a3 ≤ a8 then (if a4 ≥ a9 then ((spec_classes.f (a1, a6)).bind fun b2 =>
      (some (decide (b2 = true))))
     else (some false))
    else (some false))
   else (some false)))
  else (some false)))
noncomputable def spec_Wider.c : Con := ⟨105, spec_Wider.sg, spec_Wider.rs, spec_Wider.f⟩
theorem spec_Wider.con : ConOk Tryz.prog spec_Wider.c := walked (C := spec_Wider.C) rfl (by kernel_rfl) (by kernel_rfl) (by kernel_rfl) rfl ⟨spec_Check.con, spec_classes.con, trivial⟩ fun ⟨⟨a0, ⟨a1, ⟨a2, ⟨a3, a4⟩⟩⟩⟩, ⟨a5, ⟨a6, ⟨a7, ⟨a8, a9⟩⟩⟩⟩⟩ y h => ⟨0, (spec_Wider.eq 0 a0 a1 a2 a3 a4 a5 a6 a7 a8 a9).trans h⟩
theorem spec_Wider (a b : S5) : spec_Wider.f (a, b) = some (wider a b) := by
  obtain ⟨a0, a1, a2, a3, a4⟩ := a
  obtain ⟨b0, b1, b2, b3, b4⟩ := b
  simp only [spec_Wider.f, spec_Check.f, spec_classes, Option.bind_some, wider, specW]
  by_cases h1 : specE a0 a1 a2 a3 a4 = 0
  · rw [if_pos h1]
    by_cases h2 : specE b0 b1 b2 b3 b4 = 0
    · rw [if_pos h2]
      by_cases h3 : a3 ≤ b3
      · rw [if_pos h3]
        by_cases h4 : a4 ≥ b4
        · rw [if_pos h4, decide_eq_true (⟨h1, h2, h3, h4⟩ : _ ∧ _ ∧ _ ∧ _), Bool.true_and, spec_classes, Option.bind_some]
          cases specC a1 b1 <;> rfl
        · rw [if_neg h4, decide_eq_false (fun h => h4 h.2.2.2)]; rfl
      · rw [if_neg h3, decide_eq_false (fun h => h3 h.2.2.1)]; rfl
    · rw [if_neg h2, decide_eq_false (fun h => h2 h.2.1)]; rfl
  · rw [if_neg h1, decide_eq_false (fun h => h1 h.1)]; rfl
/-! ### rule_padded -/
@[reducible] def rule_padded.sg : List Shp := [.a (.pair (.int .i64) (.pair (.int .i64) (.pair (.int .i64) (.pair (.int .i64) (.int .i64)))))]
@[reducible] def rule_padded.rs : Rs := .one (.v (.bool))
@[reducible] noncomputable def rule_padded.code : Code := Tryz.f134.body.getD .skip
noncomputable def rule_padded.C : Ctx := ⟨tab, [], [], ⟨[], []⟩⟩
theorem rule_padded.eq (n : Nat) (a0 : Int) (a1 : Int) (a2 : Int) (a3 : Int) (a4 : Int) : call rule_padded.C Tryz.f134 rule_padded.code rule_padded.sg rule_padded.rs n (a0, (a1, (a2, (a3, a4)))) =
  (if a1 = 1 then (some (decide (a2 = 1)))
  else (some false)) := by kernel_rfl
noncomputable def rule_padded.f : El (sgTy rule_padded.sg) → Option (El rule_padded.rs.ty) := fun x => match x with
  | (a0, (a1, (a2, (a3, a4)))) =>
  (if a1 = 1 then (some (decide (a2 = 1)))
  else (some false))
noncomputable def rule_padded.c : Con := ⟨134, rule_padded.sg, rule_padded.rs, rule_padded.f⟩
theorem rule_padded.con : ConOk Tryz.prog rule_padded.c := walked (C := rule_padded.C) rfl (by kernel_rfl) (by kernel_rfl) (by kernel_rfl) rfl trivial fun ⟨a0, ⟨a1, ⟨a2, ⟨a3, a4⟩⟩⟩⟩ y h => ⟨0, (rule_padded.eq 0 a0 a1 a2 a3 a4).trans h⟩
theorem rule_padded (s : S5) : rule_padded.f s = some (padded s) := by
  obtain ⟨a0, a1, a2, a3, a4⟩ := s
  simp only [rule_padded.f, padded]
  by_cases h : a1 = 1
  · rw [if_pos h, decide_eq_true h, Bool.true_and]
  · rw [if_neg h, decide_eq_false h]; rfl
/-! ### rule_table -/
@[reducible] def rule_table.sg : List Shp := [.v (.sl (.pair (.str) (.str))), .a (.pair (.int .i64) (.pair (.int .i64) (.pair (.int .i64) (.pair (.int .i64) (.int .i64))))), .a (.pair (.int .i64) (.pair (.int .i64) (.pair (.int .i64) (.pair (.int .i64) (.int .i64)))))]
@[reducible] def rule_table.rs : Rs := .one (.v (.int .i64))
@[reducible] noncomputable def rule_table.code : Code := Tryz.f135.body.getD .skip
noncomputable def rule_table.C : Ctx := ⟨tab, [spec_Value.c, codes_Check.c], [], ⟨[(5, [4, 5, 25, 26, 27], 2)], []⟩⟩
noncomputable def rule_table.l0 (n : Nat) (v0 : List ((ByteArray × ByteArray))) (v1 : Int) (v2 : Int) (v3 : Int) (v4 : Int) (v5 : Int) (v6 : Int) (v7 : Int) (v8 : Int) (v9 : Int) (v10 : Int) (v11 : Int) (v12 : Int) : Option Int := run rule_table.C (finOf rule_table.C Tryz.f135 rule_table.rs) n (todoAt 5 rule_table.code) ⟨[.junk, .junk, .junk, .junk, .ptr 0 0, .ptr 1 0, .junk, .junk, .junk, .junk, .junk, .junk, .junk, .junk, .junk, .junk, .junk, .junk, .junk, .junk, .junk, .junk, .junk, .junk, .junk, .sl none (.pair (.str) (.str)) v0, .int .i64 v1, .int .i64 v2, .junk, .junk, .junk, .junk, .junk, .junk, .junk, .junk, .junk, .junk, .junk, .junk, .junk, .junk, .junk, .junk, .junk, .junk], [[.int .i64 v3, .int .i64 v4, .int .i64 v5, .int .i64 v6, .int .i64 v7], [.int .i64 v8, .int .i64 v9, .int .i64 v10, .int .i64 v11, .int .i64 v12]], []⟩
-- the loop at region 5
theorem rule_table.l0_eq (n : Nat) (v0 : List ((ByteArray × ByteArray))) (v1 : Int) (v2 : Int) (v3 : Int) (v4 : Int) (v5 : Int) (v6 : Int) (v7 : Int) (v8 : Int) (v9 : Int) (v10 : Int) (v11 : Int) (v12 : Int) : rule_table.l0 (n + 1) v0 v1 v2 v3 v4 v5 v6 v7 v8 v9 v10 v11 v12 =
  (if v2 < v1 then ((lget v0 v2).bind fun b1 =>
   ((spec_Value.f ((v3, v4, v5, v6, v7), Prod.fst b1)).bind fun b2 =>
   (if ¬b2 = 0 then (some b2)
   else ((spec_Value.f ((v8, v9, v10, v11, v12), Prod.snd b1)).bind fun b3 =>
    (if ¬b3 = 0 then (some b3)
    else (rule_table.l0 n v0 v1 (IntKind.wrap IntKind.i64 (v2 + 1)) v3 v4 v5 v6 v7 v8 v9 v10 v11 v12))))))
  else (some 0)) := by kernel_rfl
theorem rule_table.eq (n : Nat) (a0 : List ((ByteArray × ByteArray))) (a1 : Int) (a2 : Int) (a3 : Int) (a4 : Int) (a5 : Int) (a6 : Int) (a7 : Int) (a8 : Int) (a9 : Int) (a10 : Int) : call rule_table.C Tryz.f135 rule_table.code rule_table.sg rule_table.rs n (a0, ((a1, (a2, (a3, (a4, a5)))), (a6, (a7, (a8, (a9, a10)))))) =
  ((codes_Check.f a0).bind fun b0 =>
  (if ¬Prod.fst b0 = 0 then (some 15)
  else (if (↑(List.length a0) : Int) = 0 then (some 15)
   else (rule_table.l0 n a0 ((↑(List.length a0) : Int)) 0 a1 a2 a3 a4 a5 a6 a7 a8 a9 a10)))) := by kernel_rfl
noncomputable def rule_table.f (x : List PB × S5 × S5) : Option Int := if okP x.1 then some (tableE x.1 x.2.1 x.2.2) else none
theorem rule_table (l : List PB) (hl : okP l) (a b : S5) : rule_table.f (l, a, b) = some (tableE l a b) := if_pos hl
theorem specA_val (s : S5) (t : ByteArray) (ht : t.size ≤ 1000000000000) : spec_Value.f (s, t) = some (specA s (bl t)) := by
  obtain ⟨a0, a1, a2, a3, a4⟩ := s
  obtain ⟨t, rfl⟩ := ex_sb t
  rw [size_sb] at ht
  rw [spec_Value _ _ _ _ _ _ ht, bl_sb]; rfl
theorem rule_table_l (l : List PB) (hl : okP l) (a0 a1 a2 a3 a4 b0 b1 b2 b3 b4 : Int) : ∀ (m : List PB) (k i : Nat), l.drop i = m → m.length < k → rule_table.l0 k l (l.length : Int) (i : Int) a0 a1 a2 a3 a4 b0 b1 b2 b3 b4 = some (tableL (a0, a1, a2, a3, a4) (b0, b1, b2, b3, b4) m)
  | [], k, i, hd, hk => by
    obtain ⟨k, rfl⟩ : ∃ m, k = m + 1 := ⟨k - 1, by omega⟩
    have := dropn hd
    rw [rule_table.l0_eq, if_neg (by omega)]; rfl
  | p :: m, k, i, hd, hk => by
    obtain ⟨k, rfl⟩ : ∃ m, k = m + 1 := ⟨k - 1, by omega⟩
    obtain ⟨h1, h2, h3, h4⟩ := dropc hd
    have hk' : m.length < k := by simp at hk; omega
    have hl1 := hl.1
    have hp := hl.2 p (by have := List.drop_subset i l (a := p); rw [hd] at this; exact this (List.mem_cons_self ..))
    rw [rule_table.l0_eq, if_pos (by omega), h4, Option.bind_some, specA_val _ _ hp.1, Option.bind_some, specA_val _ _ hp.2, Option.bind_some, wrap_succ (by omega), rule_table_l l hl a0 a1 a2 a3 a4 b0 b1 b2 b3 b4 m k (i + 1) h2 hk', tableL]
    split
    · rfl
    · split <;> rfl
noncomputable def rule_table.c : Con := ⟨135, rule_table.sg, rule_table.rs, rule_table.f⟩
theorem rule_table.con : ConOk Tryz.prog rule_table.c := walked (C := rule_table.C) rfl (by kernel_rfl) (by kernel_rfl) (by kernel_rfl) rfl ⟨spec_Value.con, codes_Check.con, trivial⟩ fun ⟨l, ⟨a0, a1, a2, a3, a4⟩, ⟨b0, b1, b2, b3, b4⟩⟩ y h => by
  have h : rule_table.f (l, (a0, a1, a2, a3, a4), (b0, b1, b2, b3, b4)) = some y := h
  unfold rule_table.f at h
  split at h
  · rename_i hc
    refine ⟨l.length + 1, ?_⟩
    rw [rule_table.eq, ← h, codes_Check l hc, Option.bind_some, tableE]
    by_cases c : (pairsE l).1 = 0
    · rw [if_neg (not_not_intro c)]
      by_cases c2 : l.length = 0
      · rw [if_pos (by omega), if_pos (.inr c2)]
      · rw [if_neg (by omega), if_neg (by simp only [ne_eq]; omega)]
        exact rule_table_l l hc a0 a1 a2 a3 a4 b0 b1 b2 b3 b4 l _ 0 rfl (by omega)
    · rw [if_pos c, if_pos (.inl c)]
  · cases h
/-! ### rule_ends -/
@[reducible] def rule_ends.sg : List Shp := [.a (.pair (.int .i64) (.pair (.int .i64) (.pair (.int .i64) (.pair (.str) (.sl (.pair (.str) (.str))))))), .a (.pair (.int .i64) (.pair (.int .i64) (.sl (.pair (.int .i64) (.pair (.int .i64) (.pair (.int .i64) (.pair (.int .i64) (.int .i64)))))))), .a (.pair (.int .i64) (.pair (.int .i64) (.sl (.pair (.int .i64) (.pair (.int .i64) (.pair (.int .i64) (.pair (.int .i64) (.int .i64))))))))]
@[reducible] def rule_ends.rs : Rs := .tup [.a (.pair (.int .i64) (.pair (.int .i64) (.pair (.int .i64) (.pair (.int .i64) (.int .i64))))), .a (.pair (.int .i64) (.pair (.int .i64) (.pair (.int .i64) (.pair (.int .i64) (.int .i64))))), .v (.int .i64)]
@[reducible] noncomputable def rule_ends.code : Code := Tryz.f133.body.getD .skip
noncomputable def rule_ends.C : Ctx := ⟨tab, [schema_Find.c], [], ⟨[], []⟩⟩
theorem rule_ends.eq (n : Nat) (a0 : Int) (a1 : Int) (a2 : Int) (a3 : ByteArray) (a4 : List ((ByteArray × ByteArray))) (a5 : Int) (a6 : Int) (a7 : List ((Int × (Int × (Int × (Int × Int)))))) (a8 : Int) (a9 : Int) (a10 : List ((Int × (Int × (Int × (Int × Int)))))) : call rule_ends.C Tryz.f133 rule_ends.code rule_ends.sg rule_ends.rs n ((a0, (a1, (a2, (a3, a4)))), ((a5, (a6, a7)), (a8, (a9, a10)))) =
  ((schema_Find.f ((a5, a6, a7), a1)).bind fun b0 =>
  ((schema_Find.f ((a8, a9, a10), a2)).bind fun b1 =>
  (if a0 = 3 then (if a0 = 2 then (if ¬a1 = 0 then (some ((Prod.fst b0, Prod.fst b1, 9)))
    else (if ¬a2 = 0 then (some ((Prod.fst b0, Prod.fst b1, 9)))
     else (some ((Prod.fst b0, Prod.fst b1, 0)))))
   else (if ¬a1 = 0 then (some ((Prod.fst b0, Prod.fst b1, 9)))
    else (if ¬Prod.snd b1 = true then (some ((Prod.fst b0, Prod.fst b1, 9)))
     else (some ((Prod.fst b0, Prod.fst b1, 0))))))
  else (if a0 = 2 then (if ¬Prod.snd b0 = true then (some ((Prod.fst b0, Prod.fst b1, 9)))
    else (if ¬a2 = 0 then (some ((Prod.fst b0, Prod.fst b1, 9)))
     else (some ((Prod.fst b0, Prod.fst b1, 0)))))
   else (if ¬Prod.snd b0 = true then (some ((Prod.fst b0, Prod.fst b1, 9)))
    else (if ¬Prod.snd b1 = true then (some ((Prod.fst b0, Prod.fst b1, 9)))
     else (some ((Prod.fst b0, Prod.fst b1, 0))))))))) := by kernel_rfl
noncomputable def rule_ends.f : El (sgTy rule_ends.sg) → Option (El rule_ends.rs.ty) := fun x => match x with
  | ((a0, (a1, (a2, (a3, a4)))), ((a5, (a6, a7)), (a8, (a9, a10)))) =>
  ((schema_Find.f ((a5, a6, a7), a1)).bind fun b0 =>
  ((schema_Find.f ((a8, a9, a10), a2)).bind fun b1 =>
  (if a0 = 3 then (if a0 = 2 then (if ¬a1 = 0 then (some ((Prod.fst b0, Prod.fst b1, 9)))
    else (if ¬a2 = 0 then (some ((Prod.fst b0, Prod.fst b1, 9)))
     else (some ((Prod.fst b0, Prod.fst b1, 0)))))
   else (if ¬a1 = 0 then (some ((Prod.fst b0, Prod.fst b1, 9)))
    else (if ¬Prod.snd b1 = true then (some ((Prod.fst b0, Prod.fst b1, 9)))
     else (some ((Prod.fst b0, Prod.fst b1, 0))))))
  else (if a0 = 2 then (if ¬Prod.snd b0 = true then (some ((Prod.fst b0, Prod.fst b1, 9)))
    else (if ¬a2 = 0 then (some ((Prod.fst b0, Prod.fst b1, 9)))
     else (some ((Prod.fst b0, Prod.fst b1, 0)))))
   else (if ¬Prod.snd b0 = true then (some ((Prod.fst b0, Prod.fst b1, 9)))
    else (if ¬Prod.snd b1 = true then (some ((Prod.fst b0, Prod.fst b1, 9)))
     else (some ((Prod.fst b0, Prod.fst b1, 0)))))))))
noncomputable def rule_ends.c : Con := ⟨133, rule_ends.sg, rule_ends.rs, rule_ends.f⟩
theorem rule_ends.con : ConOk Tryz.prog rule_ends.c := walked (C := rule_ends.C) rfl (by kernel_rfl) (by kernel_rfl) (by kernel_rfl) rfl ⟨schema_Find.con, trivial⟩ fun ⟨⟨a0, ⟨a1, ⟨a2, ⟨a3, a4⟩⟩⟩⟩, ⟨⟨a5, ⟨a6, a7⟩⟩, ⟨a8, ⟨a9, a10⟩⟩⟩⟩ y h => ⟨0, (rule_ends.eq 0 a0 a1 a2 a3 a4 a5 a6 a7 a8 a9 a10).trans h⟩
theorem rule_ends (r : RU) (x y z w : Int) (a b : List S5) (ha : a.length ≤ 1000000) (hb : b.length ≤ 1000000) : rule_ends.f (r, (x, y, a), (z, w, b)) = some (endsE r a b) := by
  obtain ⟨r0, r1, r2, r3, r4⟩ := r
  simp only [rule_ends.f]
  rw [schema_Find x y a ha, Option.bind_some, schema_Find z w b hb, Option.bind_some]
  unfold endsE
  dsimp only
  by_cases h3 : r0 = 3
  · rw [if_pos h3, if_pos h3, if_neg (by omega : ¬ r0 = 2), if_neg (by omega : ¬ r0 = 2)]
    by_cases c1 : r1 = 0
    · rw [if_neg (not_not_intro c1)]
      cases c2 : (findS r2 b).2
      · rw [if_pos (by simp), if_neg (fun h => by cases h.2)]
      · rw [if_neg (by simp), if_pos ⟨decide_eq_true c1, rfl⟩]
    · rw [if_pos c1, if_neg (fun h => c1 (of_decide_eq_true h.1))]
  · rw [if_neg h3, if_neg h3]
    by_cases h2 : r0 = 2
    · rw [if_pos h2, if_pos h2]
      cases c1 : (findS r1 a).2
      · rw [if_pos (by simp), if_neg (fun h => by cases h.1)]
      · rw [if_neg (by simp)]
        by_cases c2 : r2 = 0
        · rw [if_neg (not_not_intro c2), if_pos ⟨rfl, decide_eq_true c2⟩]
        · rw [if_pos c2, if_neg (fun h => c2 (of_decide_eq_true h.2))]
    · rw [if_neg h2, if_neg h2]
      cases c1 : (findS r1 a).2
      · rw [if_pos (by simp), if_neg (fun h => by cases h.1)]
      · rw [if_neg (by simp)]
        cases c2 : (findS r2 b).2
        · rw [if_pos (by simp), if_neg (fun h => by cases h.2)]
        · rw [if_neg (by simp), if_pos ⟨rfl, rfl⟩]
/-! ### rule_Check -/
@[reducible] def rule_Check.sg : List Shp := [.a (.pair (.int .i64) (.pair (.int .i64) (.pair (.int .i64) (.pair (.str) (.sl (.pair (.str) (.str))))))), .a (.pair (.int .i64) (.pair (.int .i64) (.sl (.pair (.int .i64) (.pair (.int .i64) (.pair (.int .i64) (.pair (.int .i64) (.int .i64)))))))), .a (.pair (.int .i64) (.pair (.int .i64) (.sl (.pair (.int .i64) (.pair (.int .i64) (.pair (.int .i64) (.pair (.int .i64) (.int .i64))))))))]
@[reducible] def rule_Check.rs : Rs := .one (.v (.int .i64))
@[reducible] noncomputable def rule_Check.code : Code := Tryz.f102.body.getD .skip
noncomputable def rule_Check.C : Ctx := ⟨tab, [spec_Value.c, spec_Wider.c, rule_ends.c, rule_padded.c, rule_table.c], [], ⟨[], [(1, [(17, .bool)]), (6, [(30, .bool)]), (15, [(73, .bool)])]⟩⟩
theorem rule_Check.eq (n : Nat) (a0 : Int) (a1 : Int) (a2 : Int) (a3 : ByteArray) (a4 : List ((ByteArray × ByteArray))) (a5 : Int) (a6 : Int) (a7 : List ((Int × (Int × (Int × (Int × Int)))))) (a8 : Int) (a9 : Int) (a10 : List ((Int × (Int × (Int × (Int × Int)))))) : call rule_Check.C Tryz.f102 rule_Check.code rule_Check.sg rule_Check.rs n ((a0, (a1, (a2, (a3, a4)))), ((a5, (a6, a7)), (a8, (a9, a10)))) =
  ((((if a0 < 1 then (some true)
   else (some (decide (a0 > 5)))) : Option Bool)).bind fun b0 =>
  (if b0 = true then (some 1)
  else ((rule_ends.f ((a0, a1, a2, a3, a4), (a5, a6, a7), a8, a9, a10)).bind fun b1 =>
   (if ¬Prod.snd (Prod.snd b1) = 0 then (some (Prod.snd (Prod.snd b1)))
   else ((((if ¬a3 = ByteArray.mk #[] then (if ¬a0 = 3 then (some true)
      else (if (↑(List.length a4) : Int) > 0 then (some (decide ¬a0 = 5))
       else (some false)))
     else (if (↑(List.length a4) : Int) > 0 then (some (decide ¬a0 = 5))
      else (some false))) : Option Bool)).bind fun b2 =>
    (if b2 = true then (some 3)
    else (if a0 = 1 then ((spec_Wider.f (Prod.fst (Prod.snd b1), Prod.fst b1)).bind fun b3 =>
      (if ¬b3 = true then (some 6)
      else (some 0)))
     else (if a0 = 3 then ((spec_Value.f (Prod.fst (Prod.snd b1), a3)).bind fun b4 =>
       (some b4))
      else (if a0 = 4 then (((((rule_padded.f (Prod.fst b1)).bind fun b5 =>
         (if ¬b5 = true then (some true)
         else ((rule_padded.f (Prod.fst (Prod.snd b1))).bind fun b6 =>
          (some (decide ¬b6 = true))))) : Option Bool)).bind fun b7 =>
        (if b7 = true then (some 6)
        else (some 0)))
       else (if a0 = 5 then ((rule_table.f (a4, Prod.fst b1, Prod.fst (Prod.snd b1))).bind fun b8 =>
         (some b8))
        else (some 0))))))))))) := by kernel_rfl
noncomputable def rule_Check.f : El (sgTy rule_Check.sg) → Option (El rule_Check.rs.ty) := fun x => match x with
  | ((a0, (a1, (a2, (a3, a4)))), ((a5, (a6, a7)), (a8, (a9, a10)))) =>
  ((((if a0 < 1 then (some true)
   else (some (decide (a0 > 5)))) : Option Bool)).bind fun b0 =>
  (if b0 = true then (some 1)
  else ((rule_ends.f ((a0, a1, a2, a3, a4), (a5, a6, a7), a8, a9, a10)).bind fun b1 =>
   (if ¬Prod.snd (Prod.snd b1) = 0 then (some (Prod.snd (Prod.snd b1)))
   else ((((if ¬a3 = ByteArray.mk #[] then (if ¬a0 = 3 then (some true)
      else (if (↑(List.length a4) : Int) > 0 then (some (decide ¬a0 = 5))
       else (some false)))
     else (if (↑(List.length a4) : Int) > 0 then (some (decide ¬a0 = 5))
      else (some false))) : Option Bool)).bind fun b2 =>
    (if b2 = true then (some 3)
    else (if a0 = 1 then ((spec_Wider.f (Prod.fst (Prod.snd b1), Prod.fst b1)).bind fun b3 =>
      (if ¬b3 = true then (some 6)
      else (some 0)))
     else (if a0 = 3 then ((spec_Value.f (Prod.fst (Prod.snd b1), a3)).bind fun b4 =>
       (some b4))
      else (if a0 = 4 then (((((rule_padded.f (Prod.fst b1)).bind fun b5 =>
         (if ¬b5 = true then (some true)
         else ((rule_padded.f (Prod.fst (Prod.snd b1))).bind fun b6 =>
          (some (decide ¬b6 = true))))) : Option Bool)).bind fun b7 =>
        (if b7 = true then (some 6)
        else (some 0)))
       else (if a0 = 5 then ((rule_table.f (a4, Prod.fst b1, Prod.fst (Prod.snd b1))).bind fun b8 =>
         (some b8))
        else (some 0)))))))))))
noncomputable def rule_Check.c : Con := ⟨102, rule_Check.sg, rule_Check.rs, rule_Check.f⟩
theorem rule_Check.con : ConOk Tryz.prog rule_Check.c := walked (C := rule_Check.C) rfl (by kernel_rfl) (by kernel_rfl) (by kernel_rfl) rfl ⟨spec_Value.con, spec_Wider.con, rule_ends.con, rule_padded.con, rule_table.con, trivial⟩ fun ⟨⟨a0, ⟨a1, ⟨a2, ⟨a3, a4⟩⟩⟩⟩, ⟨⟨a5, ⟨a6, a7⟩⟩, ⟨a8, ⟨a9, a10⟩⟩⟩⟩ y h => ⟨0, (rule_Check.eq 0 a0 a1 a2 a3 a4 a5 a6 a7 a8 a9 a10).trans h⟩
def okR (r : RU) : Prop := r.2.2.2.1.size ≤ 1000000000000 ∧ okP r.2.2.2.2
instance (r : RU) : Decidable (okR r) := by unfold okR; infer_instance
theorem rule_Check (r : RU) (hr : okR r) (x y z w : Int) (a b : List S5) (ha : a.length ≤ 1000000) (hb : b.length ≤ 1000000) : rule_Check.f (r, (x, y, a), (z, w, b)) = some (ruleE r a b) := by
  obtain ⟨r0, r1, r2, r3, r4⟩ := r
  have hr1 : r3.size ≤ 1000000000000 := hr.1
  have hr2 : okP r4 := hr.2
  simp only [rule_Check.f]
  unfold ruleE
  dsimp only
  have e1 : ((if r0 < 1 then some true else some (decide (r0 > 5))) : Option Bool) = some (decide (r0 < 1 ∨ 5 < r0)) := by
    by_cases c : r0 < 1
    · rw [if_pos c, decide_eq_true (.inl c)]
    · rw [if_neg c]
      exact congrArg some (decide_eq_decide.2 (by omega))
  rw [e1, Option.bind_some]
  by_cases c1 : r0 < 1 ∨ 5 < r0
  · rw [if_pos (decide_eq_true c1), if_pos c1]
  rw [if_neg (by simpa using c1), if_neg c1, rule_ends (r0, r1, r2, r3, r4) x y z w a b ha hb, Option.bind_some]
  by_cases c2 : ¬ (endsE (r0, r1, r2, r3, r4) a b).2.2 = 0
  · rw [if_pos c2, if_pos c2]
  have c2 := Decidable.not_not.1 c2
  rw [if_neg (not_not_intro c2), if_neg (not_not_intro c2)]
  have e2 : ((if ¬r3 = ByteArray.mk #[] then (if ¬r0 = 3 then some true else (if (↑(List.length r4) : Int) > 0 then some (decide ¬r0 = 5) else some false)) else (if (↑(List.length r4) : Int) > 0 then some (decide ¬r0 = 5) else some false)) : Option Bool) = some (decide ((r3 ≠ ByteArray.mk #[] ∧ r0 ≠ 3) ∨ (0 < r4.length ∧ r0 ≠ 5))) := by
    by_cases d1 : r3 = ByteArray.mk #[]
    · rw [if_neg (not_not_intro d1)]
      by_cases d2 : (↑(List.length r4) : Int) > 0
      · rw [if_pos d2]
        exact congrArg some (decide_eq_decide.2 ⟨fun h => .inr ⟨by omega, h⟩, fun h => h.elim (fun h => absurd d1 h.1) fun h => h.2⟩)
      · rw [if_neg d2, decide_eq_false (fun h => h.elim (fun h => h.1 d1) fun h => by omega)]
    · rw [if_pos d1]
      by_cases d3 : r0 = 3
      · rw [if_neg (not_not_intro d3)]
        by_cases d2 : (↑(List.length r4) : Int) > 0
        · rw [if_pos d2]
          exact congrArg some (decide_eq_decide.2 ⟨fun h => .inr ⟨by omega, h⟩, fun h => h.elim (fun h => absurd d3 h.2) fun h => h.2⟩)
        · rw [if_neg d2, decide_eq_false (fun h => h.elim (fun h => h.2 d3) fun h => by omega)]
      · rw [if_pos d3, decide_eq_true (.inl ⟨d1, d3⟩)]
  rw [e2, Option.bind_some]
  by_cases c3 : (r3 ≠ ByteArray.mk #[] ∧ r0 ≠ 3) ∨ (0 < r4.length ∧ r0 ≠ 5)
  · rw [if_pos (decide_eq_true c3), if_pos c3]
  rw [if_neg (by simpa only [decide_eq_true_eq] using c3), if_neg c3]
  by_cases k1 : r0 = 1
  · rw [if_pos k1, if_pos k1, spec_Wider, Option.bind_some]
    cases wider (endsE (r0, r1, r2, r3, r4) a b).2.1 (endsE (r0, r1, r2, r3, r4) a b).1 <;> rfl
  rw [if_neg k1, if_neg k1]
  by_cases k3 : r0 = 3
  · rw [if_pos k3, if_pos k3, specA_val _ _ hr1, Option.bind_some]
  rw [if_neg k3, if_neg k3]
  by_cases k4 : r0 = 4
  · rw [if_pos k4, if_pos k4, rule_padded, rule_padded, Option.bind_some, Option.bind_some]
    cases padded (endsE (r0, r1, r2, r3, r4) a b).1 <;> cases padded (endsE (r0, r1, r2, r3, r4) a b).2.1 <;> rfl
  rw [if_neg k4, if_neg k4]
  by_cases k5 : r0 = 5
  · rw [if_pos k5, if_pos k5, rule_table _ hr2, Option.bind_some]
  · rw [if_neg k5, if_neg k5]
/-! ### xlate_typed -/
@[reducible] def xlate_typed.sg : List Shp := [.a (.pair (.str) (.str)), .a (.pair (.int .i64) (.pair (.int .i64) (.sl (.pair (.int .i64) (.pair (.int .i64) (.pair (.int .i64) (.pair (.int .i64) (.int .i64)))))))), .a (.pair (.int .i64) (.pair (.int .i64) (.sl (.pair (.int .i64) (.pair (.int .i64) (.pair (.int .i64) (.pair (.int .i64) (.int .i64))))))))]
@[reducible] def xlate_typed.rs : Rs := .one (.v (.bool))
@[reducible] noncomputable def xlate_typed.code : Code := Tryz.f101.body.getD .skip
noncomputable def xlate_typed.C : Ctx := ⟨tab, [mti_Version.c, mti_Request.c], [], ⟨[], []⟩⟩
theorem xlate_typed.eq (n : Nat) (a0 : ByteArray) (a1 : ByteArray) (a2 : Int) (a3 : Int) (a4 : List ((Int × (Int × (Int × (Int × Int)))))) (a5 : Int) (a6 : Int) (a7 : List ((Int × (Int × (Int × (Int × Int)))))) : call xlate_typed.C Tryz.f101 xlate_typed.code xlate_typed.sg xlate_typed.rs n ((a0, a1), ((a2, (a3, a4)), (a5, (a6, a7)))) =
  ((mti_Version.f a0).bind fun b0 =>
  ((mti_Version.f a1).bind fun b1 =>
  (if Prod.snd b0 = true then (if Prod.snd b1 = true then (if Prod.fst b0 = a3 then (if Prod.fst b1 = a6 then ((mti_Request.f a0).bind fun b2 =>
      ((mti_Request.f a1).bind fun b3 =>
      (some (decide (decide (b2 = true) = decide (b3 = true))))))
     else (some false))
    else (some false))
   else (some false))
  else (some false)))) := by kernel_rfl
noncomputable def xlate_typed.f : El (sgTy xlate_typed.sg) → Option (El xlate_typed.rs.ty) := fun x => match x with
  | ((a0, a1), ((a2, (a3, a4)), (a5, (a6, a7)))) =>
  ((mti_Version.f a0).bind fun b0 =>
  ((mti_Version.f a1).bind fun b1 =>
  (if Prod.snd b0 = true then (if Prod.snd b1 = true then (if Prod.fst b0 = a3 then (if Prod.fst b1 = a6 then ((mti_Request.f a0).bind fun b2 =>
      ((mti_Request.f a1).bind fun b3 =>
      (some (decide (decide (b2 = true) = decide (b3 = true))))))
     else (some false))
    else (some false))
   else (some false))
  else (some false))))
noncomputable def xlate_typed.c : Con := ⟨101, xlate_typed.sg, xlate_typed.rs, xlate_typed.f⟩
theorem xlate_typed.con : ConOk Tryz.prog xlate_typed.c := walked (C := xlate_typed.C) rfl (by kernel_rfl) (by kernel_rfl) (by kernel_rfl) rfl ⟨mti_Version.con, mti_Request.con, trivial⟩ fun ⟨⟨a0, a1⟩, ⟨⟨a2, ⟨a3, a4⟩⟩, ⟨a5, ⟨a6, a7⟩⟩⟩⟩ y h => ⟨0, (xlate_typed.eq 0 a0 a1 a2 a3 a4 a5 a6 a7).trans h⟩
theorem xlate_typed (p : PB) (x v y w : Int) (a b : List S5) : xlate_typed.f (p, (x, v, a), (y, w, b)) = some (typedP p v w) := by
  obtain ⟨s, t⟩ := p
  obtain ⟨s, rfl⟩ := ex_sb s
  obtain ⟨t, rfl⟩ := ex_sb t
  have e : typedP (sb s, sb t) v w = (right s && (right t && (decide (version s = v) && (decide (version t = w) && decide (asks s = asks t))))) := by
    have h1 : bl (sb s) = s := bl_sb s
    have h2 : bl (sb t) = t := bl_sb t
    show (right (bl (sb s)) && (right (bl (sb t)) && (decide (version (bl (sb s)) = v) && (decide (version (bl (sb t)) = w) && decide (asks (bl (sb s)) = asks (bl (sb t))))))) = _
    rw [h1, h2]
  rw [e]
  simp only [xlate_typed.f]
  rw [mti_Version, mti_Version, Option.bind_some, Option.bind_some]
  by_cases h1 : right s = true
  · rw [if_pos h1, h1, Bool.true_and, if_pos rfl]
    by_cases h2 : right t = true
    · rw [if_pos h2, h2, Bool.true_and, if_pos rfl]
      show (if version s = v then if version t = w then (mti_Request.f (sb s)).bind fun b2 => (mti_Request.f (sb t)).bind fun b3 => some (decide (decide (b2 = true) = decide (b3 = true))) else some false else some false) = _
      by_cases h3 : version s = v
      · rw [if_pos h3, decide_eq_true h3, Bool.true_and]
        by_cases h4 : version t = w
        · rw [if_pos h4, decide_eq_true h4, Bool.true_and, mti_Request, mti_Request, Option.bind_some, Option.bind_some]
          cases asks s <;> cases asks t <;> rfl
        · rw [if_neg h4, decide_eq_false h4]; rfl
      · rw [if_neg h3, decide_eq_false h3]; rfl
    · rw [if_neg h2, if_neg (by simp), Bool.eq_false_iff.2 h2]; rfl
  · rw [if_neg h1, if_neg (by simp), Bool.eq_false_iff.2 h1]; rfl
end Go.Proofs.YtkaihbkfobiejaaGreatDoor.Xe
