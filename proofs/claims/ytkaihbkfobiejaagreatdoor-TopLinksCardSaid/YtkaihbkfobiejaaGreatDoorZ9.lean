import Derived.Test.YtkaihbkfobiejaaGreatDoorZ7
import Derived.Test.YtkaihbkfobiejaaGreatDoorZ8
namespace Go.Proofs.YtkaihbkfobiejaaGreatDoor.Xe
open Go Go.RowKit Go.Proofs.YtkaihbkfobiejaaGreatDoor.Sp
set_option linter.unusedVariables false
set_option linter.unusedSimpArgs false
set_option maxRecDepth 100000
theorem dropc {α : Type} {l m : List α} {a : α} {i : Nat} (h : l.drop i = a :: m) : i < l.length ∧ l.drop (i + 1) = m ∧ i + (m.length + 1) = l.length ∧ lget l (i : Int) = some a := by
 have hlt : i < l.length := by
  rcases Nat.lt_or_ge i l.length with h' | h'
  ·exact h'
  ·rw [List.drop_of_length_le h'] at h; cases h
 have h2 := h
 rw [List.drop_eq_getElem_cons hlt] at h2
 obtain ⟨e1, e2⟩ := List.cons.inj h2
 exact ⟨hlt, e2, by rw [← e2, List.length_drop]; omega, by rw [lget_nat _ _ hlt, e1]⟩
theorem dropn {α : Type} {l : List α} {i : Nat} (h : l.drop i = []) : l.length ≤ i := by
 have := congrArg List.length h
 rw [List.length_drop] at this; simp at this; omega
@[reducible] def mti_Right.sg : List Shp := [.v (.str)]
@[reducible] def mti_Right.rs : Rs := .one (.v (.bool))
@[reducible] noncomputable def mti_Right.code : Code := Tryz.f48.body.getD .skip
noncomputable def mti_Right.C : Ctx := ⟨tab, [digits_All.c], [], ⟨[], []⟩⟩
theorem mti_Right.eq (n : Nat) (a0 : ByteArray) : call mti_Right.C Tryz.f48 mti_Right.code mti_Right.sg mti_Right.rs n a0 =
 (if (a0.size : Int) = 4 then ((digits_All.f a0).bind fun b0 =>
 (some (decide (b0 = true))))
 else (some false)) := by kernel_rfl
noncomputable def mti_Right.f : El (sgTy mti_Right.sg) → Option (El mti_Right.rs.ty) := fun x => match x with
 | a0 =>
 (if (↑(ByteArray.size a0) : Int) = 4 then ((digits_All.f a0).bind fun b0 =>
  (some (decide (b0 = true))))
 else (some false))
noncomputable def mti_Right.c : Con := ⟨48, mti_Right.sg, mti_Right.rs, mti_Right.f⟩
theorem mti_Right.con : ConOk Tryz.prog mti_Right.c := walked (C := mti_Right.C) rfl (by kernel_rfl) (by kernel_rfl) (by kernel_rfl) rfl ⟨digits_All.con, trivial⟩ fun a0 y h => ⟨0, (mti_Right.eq 0 a0).trans h⟩
theorem mti_Right (t : List UInt8) : mti_Right.f (sb t) = some (right t) := by
 simp only [mti_Right.f, size_sb, digits_All, Option.bind_some, right]
 by_cases h : t.length = 4
 ·rw [if_pos (by omega), decide_eq_true h, Bool.true_and]
  cases t.all dig <;> rfl
 ·rw [if_neg (by omega), decide_eq_false h]; rfl
@[reducible] def mti_Version.sg : List Shp := [.v (.str)]
@[reducible] def mti_Version.rs : Rs := .tup [.v (.int .i64), .v (.bool)]
@[reducible] noncomputable def mti_Version.code : Code := Tryz.f44.body.getD .skip
noncomputable def mti_Version.C : Ctx := ⟨tab, [mti_Right.c], [], ⟨[], []⟩⟩
theorem mti_Version.eq (n : Nat) (a0 : ByteArray) : call mti_Version.C Tryz.f44 mti_Version.code mti_Version.sg mti_Version.rs n a0 =
 ((mti_Right.f a0).bind fun b0 =>
 (if ¬b0 = true then (some ((0, false)))
 else ((bget a0 0).bind fun b1 =>
 (some ((IntKind.wrap .i64 (IntKind.wrap .u8 ((↑(UInt8.toNat b1) : Int) - 48)), true)))))) := by kernel_rfl
noncomputable def mti_Version.f : El (sgTy mti_Version.sg) → Option (El mti_Version.rs.ty) := fun x => match x with
 | a0 =>
 ((mti_Right.f a0).bind fun b0 =>
 (if ¬b0 = true then (some ((0, false)))
 else ((bget a0 0).bind fun b1 =>
  (some ((IntKind.wrap IntKind.i64 (IntKind.wrap IntKind.u8 ((↑(UInt8.toNat b1) : Int) - 48)), true))))))
noncomputable def mti_Version.c : Con := ⟨44, mti_Version.sg, mti_Version.rs, mti_Version.f⟩
theorem mti_Version.con : ConOk Tryz.prog mti_Version.c := walked (C := mti_Version.C) rfl (by kernel_rfl) (by kernel_rfl) (by kernel_rfl) rfl ⟨mti_Right.con, trivial⟩ fun a0 y h => ⟨0, (mti_Version.eq 0 a0).trans h⟩
theorem mti_Version (t : List UInt8) : mti_Version.f (sb t) = some (if right t = true then (((t.getD 0 0).toNat : Int) - 48, true) else (0, false)) := by
 simp only [mti_Version.f]
 rw [mti_Right, Option.bind_some]
 by_cases h : right t = true
 ·rw [if_neg (by simp [h]), if_pos h]
  obtain ⟨a, b, c, d, rfl, ha, -⟩ := four h
  have hd := (dig_iff a).1 ha
  have g : bget (sb [a, b, c, d]) 0 = some a := rfl
  rw [g, Option.bind_some, show (a.toNat : Int) - 48 = ((a.toNat - 48 : Nat) : Int) by omega]
  have w : IntKind.wrap .u8 ((a.toNat - 48 : Nat) : Int) = ((a.toNat - 48 : Nat) : Int) := by
   show (if (false && decide (((a.toNat - 48 : Nat) : Int) % 256 ≥ 128)) = true then ((a.toNat - 48 : Nat) : Int) % 256 - 256 else ((a.toNat - 48 : Nat) : Int) % 256) = _
   simp only [Bool.false_and, Bool.false_eq_true, if_false]; omega
  rw [w, wrap_nat (by omega)]
  simp only [List.getD_cons_zero]
  rw [show (a.toNat : Int) - 48 = ((a.toNat - 48 : Nat) : Int) by omega]
 ·rw [if_pos (by simpa using h), if_neg h]
@[reducible] def schema_Find.sg : List Shp := [.a zdS, .v (.int .i64)]
@[reducible] def schema_Find.rs : Rs := .tup [.a zd5, .v (.bool)]
@[reducible] noncomputable def schema_Find.code : Code := Tryz.f40.body.getD .skip
noncomputable def schema_Find.C : Ctx := ⟨tab, [], [], ⟨[(2, [1, 4, 9, 10, 11], 2)], []⟩⟩
noncomputable def schema_Find.l0 (n : Nat) (v0 : Int) (v1 : List z5) (v2 v3 v4 v5 : Int) (v6 : List z5) (v7 v8 v9 v10 v11 : Int) : Option (((Int × (Int × (Int × (Int × Int)))) × Bool)) := run schema_Find.C (finOf schema_Find.C Tryz.f40 schema_Find.rs) n (todoAt 2 schema_Find.code) ⟨zJ :: .int .i64 v0 :: zJ :: zJ :: .ptr 1 0 :: zJ :: zJ :: zJ :: zJ :: .sl none zd5 v1 :: .int .i64 v2 :: .int .i64 v3 :: zJ :: zJ :: zK [], [[.int .i64 v4, .int .i64 v5, .sl none zd5 v6], [.int .i64 v7, .int .i64 v8, .int .i64 v9, .int .i64 v10, .int .i64 v11]], []⟩
theorem schema_Find.l0_eq n v0 v1 v2 v3 v4 v5 v6 v7 v8 v9 v10 v11 : schema_Find.l0 (n + 1) v0 v1 v2 v3 v4 v5 v6 v7 v8 v9 v10 v11 =
 (if v3 < v2 then ((lget v1 v3).bind fun b0 =>
 (if b0.1 = v0 then (some ((b0, true)))
 else (schema_Find.l0 n v0 v1 v2 (IntKind.wrap .i64 (v3 + 1)) v4 v5 v6 v7 v8 v9 v10 v11)))
 else (some (((0, 0, 0, 0, 0), false)))) := by kernel_rfl
theorem schema_Find.eq (n : Nat) (a0 a1 : Int) (a2 : List z5) (a3 : Int) : call schema_Find.C Tryz.f40 schema_Find.code schema_Find.sg schema_Find.rs n ((a0, (a1, a2)), a3) =
 (schema_Find.l0 n a3 a2 (a2.length : Int) 0 a0 a1 a2 0 0 0 0 0) := by kernel_rfl
def schema_Find.f (x : (Int × Int × List S5) × Int) : Option (S5 × Bool) := if x.1.2.2.length ≤ 1000000 then some (findS x.2 x.1.2.2) else none
theorem schema_Find (a b : Int) (s : List S5) (hs : s.length ≤ 1000000) (n : Int) : schema_Find.f ((a, b, s), n) = some (findS n s) := if_pos hs
theorem schema_Find_l (s : List S5) (hs : s.length ≤ 1000000) (n a b : Int) : ∀ (m : List S5) (k i : Nat), s.drop i = m → m.length < k → schema_Find.l0 k n s (s.length : Int) (i : Int) a b s 0 0 0 0 0 = some (findS n m)
 | [], k, i, hd, hk => by
  obtain ⟨k, rfl⟩ : ∃ m, k = m + 1 := ⟨k - 1, by omega⟩
  have := dropn hd
  rw [schema_Find.l0_eq, if_neg (by omega)]; rfl
 | v :: m, k, i, hd, hk => by
  obtain ⟨k, rfl⟩ : ∃ m, k = m + 1 := ⟨k - 1, by omega⟩
  obtain ⟨h1, h2, h3, h4⟩ := dropc hd
  have hk' : m.length < k := by simp at hk; omega
  rw [schema_Find.l0_eq, if_pos (by omega), h4, Option.bind_some, wrap_succ (by omega), schema_Find_l s hs n a b m k (i + 1) h2 hk', findS]
  split
  ·rfl
  ·rfl
noncomputable def schema_Find.c : Con := ⟨40, schema_Find.sg, schema_Find.rs, schema_Find.f⟩
theorem schema_Find.con : ConOk Tryz.prog schema_Find.c := walked (C := schema_Find.C) rfl (by kernel_rfl) (by kernel_rfl) (by kernel_rfl) rfl trivial fun ⟨⟨a, b, s⟩, n⟩ y h => by
 have h : schema_Find.f ((a, b, s), n) = some y := h
 unfold schema_Find.f at h
 split at h
 ·rename_i hc
  exact ⟨s.length + 1, by rw [schema_Find.eq]; exact (schema_Find_l s hc n a b s _ 0 rfl (by omega)).trans h⟩
 ·cases h
theorem spec_Check' (v : S5) : spec_Check.f v = some (specE v.1 v.2.1 v.2.2.1 v.2.2.2.1 v.2.2.2.2) := rfl
@[reducible] def schema_Check.sg : List Shp := [.a zdS]
@[reducible] def schema_Check.rs : Rs := .tup [.v (.int .i64), .v (.int .i64)]
@[reducible] noncomputable def schema_Check.code : Code := Tryz.f43.body.getD .skip
noncomputable def schema_Check.C : Ctx := ⟨tab, [spec_Check.c], [], ⟨[(6, [1, 26, 27, 28], 1)], []⟩⟩
noncomputable def schema_Check.l0 (n : Nat) (v0 : List z5) (v1 v2 v3 v4 : Int) (v5 : List z5) : Option ((Int × Int)) := run schema_Check.C (finOf schema_Check.C Tryz.f43 schema_Check.rs) n (todoAt 6 schema_Check.code) ⟨zJ :: .ptr 0 0 :: zK (zK (zK (.sl none zd5 v0 :: .int .i64 v1 :: .int .i64 v2 :: zJ :: zJ :: zK (zK (zK []))))), [[.int .i64 v3, .int .i64 v4, .sl none zd5 v5]], []⟩
theorem schema_Check.l0_eq n v0 v1 v2 v3 v4 v5 : schema_Check.l0 (n + 1) v0 v1 v2 v3 v4 v5 =
 (if v2 < v1 then ((lget v0 v2).bind fun b0 =>
 ((spec_Check.f b0).bind fun b1 =>
 (if ¬b1 = 0 then (some ((b1, v2)))
 else (if v2 > 0 then ((lget v5 (IntKind.wrap .i64 (v2 - 1))).bind fun b2 =>
 (if b0.1 ≤ b2.1 then (some ((11, v2)))
 else (schema_Check.l0 n v0 v1 (IntKind.wrap .i64 (v2 + 1)) v3 v4 v5)))
 else (schema_Check.l0 n v0 v1 (IntKind.wrap .i64 (v2 + 1)) v3 v4 v5)))))
 else (some ((0, 0)))) := by kernel_rfl
theorem schema_Check.eq (n : Nat) (a0 a1 : Int) (a2 : List z5) : call schema_Check.C Tryz.f43 schema_Check.code schema_Check.sg schema_Check.rs n (a0, (a1, a2)) =
 (if ¬a0 = 1 then (if ¬a0 = 2 then (some ((1, -1)))
 else (if a1 < 0 then (some ((7, -1)))
 else (if a1 > 9 then (some ((7, -1)))
 else (schema_Check.l0 n a2 (a2.length : Int) 0 a0 a1 a2))))
 else (if a1 < 0 then (some ((7, -1)))
 else (if a1 > 9 then (some ((7, -1)))
 else (schema_Check.l0 n a2 (a2.length : Int) 0 a0 a1 a2)))) := by kernel_rfl
def schema_Check.f (x : Int × Int × List S5) : Option (Int × Int) := if x.2.2.length ≤ 1000000 then some (schemaE x) else none
theorem schema_Check (a b : Int) (s : List S5) (hs : s.length ≤ 1000000) : schema_Check.f (a, b, s) = some (schemaE (a, b, s)) := if_pos hs
theorem schema_Check_l (s : List S5) (hs : s.length ≤ 1000000) (a b : Int) : ∀ (m : List S5) (k i : Nat) (p : Int), s.drop i = m → (i = 0 → p < 2) → (∀ j : Nat, i = j + 1 → ∃ v, lget s (j : Int) = some v ∧ v.1 = p) → m.length < k →
  schema_Check.l0 k s (s.length : Int) (i : Int) a b s = some (schE p i m)
 | [], k, i, p, hd, hp, hp1, hk => by
  obtain ⟨k, rfl⟩ : ∃ m, k = m + 1 := ⟨k - 1, by omega⟩
  have := dropn hd
  rw [schema_Check.l0_eq, if_neg (by omega)]; rfl
 | v :: m, k, i, p, hd, hp, hp1, hk => by
  obtain ⟨k, rfl⟩ : ∃ m, k = m + 1 := ⟨k - 1, by omega⟩
  obtain ⟨h1, h2, h3, h4⟩ := dropc hd
  have hk' : m.length < k := by simp at hk; omega
  have ih := schema_Check_l s hs a b m k (i + 1) v.1 h2 (fun e => absurd e (by omega)) (fun j hj => ⟨v, by rw [show j = i by omega]; exact h4, rfl⟩) hk'
  rw [schema_Check.l0_eq, if_pos (by omega), h4, Option.bind_some, spec_Check', Option.bind_some, wrap_succ (by omega), ih, schE]
  by_cases c1 : specE v.1 v.2.1 v.2.2.1 v.2.2.2.1 v.2.2.2.2 = 0
  ·rw [if_neg (not_not_intro c1), if_neg (not_not_intro c1)]
   have hz := specE_zero c1
   rcases Nat.eq_zero_or_pos i with rfl | hi
   ·rw [if_neg (by simp), if_neg (by have := hp rfl; omega)]
   ·obtain ⟨j, rfl⟩ : ∃ j, i = j + 1 := ⟨i - 1, by omega⟩
    obtain ⟨w, hw, rfl⟩ := hp1 j rfl
    rw [if_pos (by omega), show ((j + 1 : Nat) : Int) - 1 = ((j : Nat) : Int) by omega, wrap_nat (by omega), hw, Option.bind_some]
    split <;> rfl
  ·rw [if_pos c1, if_pos c1]
theorem schema_Check.run (a b : Int) (s : List S5) (hs : s.length ≤ 1000000) : call schema_Check.C Tryz.f43 schema_Check.code schema_Check.sg schema_Check.rs (s.length + 1) (a, b, s) = some (schemaE (a, b, s)) := by
 have hr := schema_Check_l s hs a b s (s.length + 1) 0 0 rfl (fun _ => by decide) (fun j hj => absurd hj (by omega)) (by omega)
 have hr : schema_Check.l0 (s.length + 1) s (s.length : Int) 0 a b s = _ := hr
 rw [schema_Check.eq, hr]
 unfold schemaE
 dsimp only
 by_cases h1 : a = 1
 ·rw [if_neg (show ¬ ¬ a = 1 from fun e => e h1), if_neg (show ¬ ¬ (a = 1 ∨ a = 2) from fun e => e (.inl h1))]
  by_cases h2 : b < 0
  ·rw [if_pos h2, if_pos (.inl h2)]
  ·by_cases h3 : b > 9
   ·rw [if_neg h2, if_pos h3, if_pos (.inr h3)]
   ·rw [if_neg h2, if_neg h3, if_neg (show ¬ (b < 0 ∨ 9 < b) by omega)]
 ·rw [if_pos h1]
  by_cases h4 : a = 2
  ·rw [if_neg (show ¬ ¬ a = 2 from fun e => e h4), if_neg (show ¬ ¬ (a = 1 ∨ a = 2) from fun e => e (.inr h4))]
   by_cases h2 : b < 0
   ·rw [if_pos h2, if_pos (.inl h2)]
   ·by_cases h3 : b > 9
    ·rw [if_neg h2, if_pos h3, if_pos (.inr h3)]
    ·rw [if_neg h2, if_neg h3, if_neg (show ¬ (b < 0 ∨ 9 < b) by omega)]
  ·rw [if_pos h4, if_pos (show ¬ (a = 1 ∨ a = 2) from fun e => e.elim h1 h4)]
noncomputable def schema_Check.c : Con := ⟨43, schema_Check.sg, schema_Check.rs, schema_Check.f⟩
theorem schema_Check.con : ConOk Tryz.prog schema_Check.c := walked (C := schema_Check.C) rfl (by kernel_rfl) (by kernel_rfl) (by kernel_rfl) rfl ⟨spec_Check.con, trivial⟩ fun ⟨a, b, s⟩ y h => by
 have h : schema_Check.f (a, b, s) = some y := h
 unfold schema_Check.f at h
 split at h
 ·rename_i hc
  exact ⟨s.length + 1, (schema_Check.run a b s hc).trans h⟩
 ·cases h
def okM (l : List V) : Prop := l.length ≤ 1000000 ∧ ∀ v ∈ l, v.2.size ≤ 1000000000000
instance (l : List V) : Decidable (okM l) := by unfold okM; exact inferInstance
@[reducible] def msg_Check.sg : List Shp := [.a zdS, .a (.pair (.str) (.sl zdE))]
@[reducible] def msg_Check.rs : Rs := .one (.a (.pair (.int .i64) (.int .i64)))
@[reducible] noncomputable def msg_Check.code : Code := Tryz.f12.body.getD .skip
noncomputable def msg_Check.C : Ctx := ⟨tab, [schema_Find.c, spec_Value.c, schema_Check.c, mti_Version.c], [], ⟨[(9, [2, 4, 9, 39, 40, 41], 3)], []⟩⟩
noncomputable def msg_Check.l0 (n : Nat) (v0 : Int) (v1 : List zE) (v2 v3 v4 v5 : Int) (v6 : List z5) (v7 : ByteArray) (v8 : List zE) (v9 v10 : Int) : Option ((Int × Int)) := run msg_Check.C (finOf msg_Check.C Tryz.f12 msg_Check.rs) n (todoAt 9 msg_Check.code) ⟨zJ :: zJ :: .ptr 0 0 :: zJ :: .ptr 2 0 :: zJ :: zJ :: zJ :: zJ :: .int .i64 v0 :: zJ :: zJ :: zJ :: zJ :: zJ :: zK (zK (zK (.sl none zdE v1 :: .int .i64 v2 :: .int .i64 v3 :: zJ :: zJ :: zJ :: zJ :: zK (zK (zK (zK [])))))), [[.int .i64 v4, .int .i64 v5, .sl none zd5 v6], [.str v7, .sl none zdE v8], [.int .i64 v9, .int .i64 v10]], []⟩
theorem msg_Check.l0_eq n v0 v1 v2 v3 v4 v5 v6 v7 v8 v9 v10 : msg_Check.l0 (n + 1) v0 v1 v2 v3 v4 v5 v6 v7 v8 v9 v10 =
 (if v3 < v2 then ((lget v1 v3).bind fun b2 =>
 (if b2.1 ≤ v0 then (some ((11, b2.1)))
 else ((schema_Find.f ((v4, v5, v6), b2.1)).bind fun b3 =>
 (if ¬b3.2 = true then (some ((9, b2.1)))
 else ((spec_Value.f (b3.1, b2.2)).bind fun b4 =>
 (if ¬b4 = 0 then (some ((b4, b2.1)))
 else (msg_Check.l0 n b2.1 v1 v2 (IntKind.wrap .i64 (v3 + 1)) v4 v5 v6 v7 v8 v9 v10)))))))
 else (some ((0, 0)))) := by kernel_rfl
theorem msg_Check.eq (n : Nat) (a0 a1 : Int) (a2 : List z5) (a3 : ByteArray) (a4 : List zE) : call msg_Check.C Tryz.f12 msg_Check.code msg_Check.sg msg_Check.rs n ((a0, (a1, a2)), (a3, a4)) =
 ((schema_Check.f (a0, a1, a2)).bind fun b0 =>
 (if ¬b0.1 = 0 then (some ((1, -1)))
 else ((mti_Version.f a3).bind fun b1 =>
 (if ¬b1.2 = true then (some ((7, 0)))
 else (if ¬b1.1 = a1 then (some ((7, 0)))
 else (msg_Check.l0 n 0 a4 (a4.length : Int) 0 a0 a1 a2 a3 a4 0 0)))))) := by kernel_rfl
def msg_Check.f (x : (Int × Int × List S5) × ByteArray × List V) : Option (Int × Int) := if x.1.2.2.length ≤ 1000000 ∧ okM x.2.2 then some (msgE x.1 (bl x.2.1) x.2.2) else none
theorem msg_Check (a b : Int) (s : List S5) (t : List UInt8) (l : List V) (hs : s.length ≤ 1000000) (hl : okM l) : msg_Check.f ((a, b, s), sb t, l) = some (msgE (a, b, s) t l) := if_pos ⟨hs, hl⟩
theorem msg_Check_l (a b : Int) (s : List S5) (hs : s.length ≤ 1000000) (t : ByteArray) (l : List V) (hl : okM l) : ∀ (m : List V) (k i : Nat) (p : Int), l.drop i = m → (∀ v ∈ m, v.2.size ≤ 1000000000000) → m.length < k →
  msg_Check.l0 k p l (l.length : Int) (i : Int) a b s t l 0 0 = some (valE s p m)
 | [], k, i, p, hd, hv, hk => by
  obtain ⟨k, rfl⟩ : ∃ m, k = m + 1 := ⟨k - 1, by omega⟩
  have := dropn hd
  rw [msg_Check.l0_eq, if_neg (by omega)]; rfl
 | v :: m, k, i, p, hd, hv, hk => by
  obtain ⟨k, rfl⟩ : ∃ m, k = m + 1 := ⟨k - 1, by omega⟩
  obtain ⟨h1, h2, h3, h4⟩ := dropc hd
  have hk' : m.length < k := by simp at hk; omega
  have hl1 := hl.1
  have ih := msg_Check_l a b s hs t l hl m k (i + 1) v.1 h2 (fun w hw => hv w (List.mem_cons_of_mem _ hw)) hk'
  have hz := hv v (List.mem_cons_self ..)
  rw [size_bl] at hz
  have hsv := spec_Value (findS v.1 s).1.1 (findS v.1 s).1.2.1 (findS v.1 s).1.2.2.1 (findS v.1 s).1.2.2.2.1 (findS v.1 s).1.2.2.2.2 (bl v.2) hz
  rw [sb_bl] at hsv
  have hsv : spec_Value.f ((findS v.1 s).1, v.2) = _ := hsv
  rw [msg_Check.l0_eq, if_pos (by omega), h4, Option.bind_some, schema_Find a b s hs, Option.bind_some, hsv, Option.bind_some, wrap_succ (by omega), ih, valE]
  by_cases c1 : v.1 ≤ p
  ·rw [if_pos c1, if_pos c1]
  rw [if_neg c1, if_neg c1]
  by_cases c2 : (findS v.1 s).2 = false
  ·rw [if_pos (by simp [c2]), if_pos c2]
  rw [if_neg (by simpa using c2), if_neg c2]
  generalize specV (findS v.1 s).1.1 (findS v.1 s).1.2.1 (findS v.1 s).1.2.2.1 (findS v.1 s).1.2.2.2.1 (findS v.1 s).1.2.2.2.2 (bl v.2) = q
  by_cases c3 : q = 0
  ·rw [if_neg (not_not_intro c3), if_neg (not_not_intro c3)]
  ·rw [if_pos c3, if_pos c3]
noncomputable def msg_Check.c : Con := ⟨12, msg_Check.sg, msg_Check.rs, msg_Check.f⟩
theorem msg_Check.con : ConOk Tryz.prog msg_Check.c := walked (C := msg_Check.C) rfl (by kernel_rfl) (by kernel_rfl) (by kernel_rfl) rfl ⟨schema_Find.con, spec_Value.con, schema_Check.con, mti_Version.con, trivial⟩ fun ⟨⟨a, b, s⟩, t, l⟩ y h => by
 obtain ⟨t, rfl⟩ := ex_sb t
 have h : msg_Check.f ((a, b, s), sb t, l) = some y := h
 unfold msg_Check.f at h
 split at h
 ·rename_i hc
  obtain ⟨hs, hl⟩ := hc
  refine ⟨l.length + 1, ?_⟩
  have hr := msg_Check_l a b s hs (sb t) l hl l (l.length + 1) 0 0 rfl hl.2 (by omega)
  have hr : msg_Check.l0 (l.length + 1) 0 l (l.length : Int) 0 a b s (sb t) l 0 0 = _ := hr
  rw [msg_Check.eq, schema_Check a b s hs, Option.bind_some, mti_Version, Option.bind_some, hr, ← h]
  show _ = some (msgE (a, b, s) t l)
  unfold msgE
  dsimp only
  by_cases c1 : (schemaE (a, b, s)).1 = 0
  ·rw [if_neg (not_not_intro c1), if_neg (not_not_intro c1)]
   by_cases c2 : right t = true
   ·rw [if_pos c2, if_neg (show ¬ ¬ (((t.getD 0 0).toNat : Int) - 48, true).2 = true from fun e => e rfl), if_neg (show ¬ right t = false by rw [c2]; decide)]
    by_cases c3 : ((t.getD 0 0).toNat : Int) - 48 = b
    ·rw [if_neg (not_not_intro c3), if_neg (not_not_intro c3)]
    ·rw [if_pos c3, if_pos c3]
   ·rw [if_neg c2, if_pos (show ¬ ((0 : Int), false).2 = true from fun e => by cases e), if_pos (show right t = false by simpa using c2)]
  ·rw [if_pos c1, if_pos c1]
 ·cases h
@[reducible] def msg_Get.sg : List Shp := [.a (.pair (.str) (.sl zdE)), .v (.int .i64)]
@[reducible] def msg_Get.rs : Rs := .tup [.v (.str), .v (.bool)]
@[reducible] noncomputable def msg_Get.code : Code := Tryz.f117.body.getD .skip
noncomputable def msg_Get.C : Ctx := ⟨tab, [], [], ⟨[(2, [1, 9, 10, 11], 1)], []⟩⟩
noncomputable def msg_Get.l0 (n : Nat) (v0 : Int) (v1 : List zE) (v2 v3 : Int) (v4 : ByteArray) (v5 : List zE) : Option ((ByteArray × Bool)) := run msg_Get.C (finOf msg_Get.C Tryz.f117 msg_Get.rs) n (todoAt 2 msg_Get.code) ⟨zJ :: .int .i64 v0 :: zJ :: zJ :: zJ :: zJ :: zJ :: zJ :: zJ :: .sl none zdE v1 :: .int .i64 v2 :: .int .i64 v3 :: zJ :: zJ :: zK [], [[.str v4, .sl none zdE v5]], []⟩
theorem msg_Get.l0_eq n v0 v1 v2 v3 v4 v5 : msg_Get.l0 (n + 1) v0 v1 v2 v3 v4 v5 =
 (if v3 < v2 then ((lget v1 v3).bind fun b0 =>
 (if b0.1 = v0 then (some ((b0.2, true)))
 else (msg_Get.l0 n v0 v1 v2 (IntKind.wrap .i64 (v3 + 1)) v4 v5)))
 else (some ((ByteArray.mk #[], false)))) := by kernel_rfl
theorem msg_Get.eq (n : Nat) (a0 : ByteArray) (a1 : List zE) (a2 : Int) : call msg_Get.C Tryz.f117 msg_Get.code msg_Get.sg msg_Get.rs n ((a0, a1), a2) =
 (msg_Get.l0 n a2 a1 (a1.length : Int) 0 a0 a1) := by kernel_rfl
def msg_Get.f (x : (ByteArray × List V) × Int) : Option (ByteArray × Bool) := if x.1.2.length ≤ 5864062014700 then some (getV x.2 x.1.2) else none
theorem msg_Get (t : ByteArray) (l : List V) (hl : l.length ≤ 5864062014700) (n : Int) : msg_Get.f ((t, l), n) = some (getV n l) := if_pos hl
theorem msg_Get_l (t : ByteArray) (l : List V) (hl : l.length ≤ 5864062014700) (n : Int) : ∀ (m : List V) (k i : Nat), l.drop i = m → m.length < k → msg_Get.l0 k n l (l.length : Int) (i : Int) t l = some (getV n m)
 | [], k, i, hd, hk => by
  obtain ⟨k, rfl⟩ : ∃ m, k = m + 1 := ⟨k - 1, by omega⟩
  have := dropn hd
  rw [msg_Get.l0_eq, if_neg (by omega)]; rfl
 | v :: m, k, i, hd, hk => by
  obtain ⟨k, rfl⟩ : ∃ m, k = m + 1 := ⟨k - 1, by omega⟩
  obtain ⟨h1, h2, h3, h4⟩ := dropc hd
  have hk' : m.length < k := by simp at hk; omega
  rw [msg_Get.l0_eq, if_pos (by omega), h4, Option.bind_some, wrap_succ (by omega), msg_Get_l t l hl n m k (i + 1) h2 hk', getV]
  split
  ·rfl
  ·rfl
noncomputable def msg_Get.c : Con := ⟨117, msg_Get.sg, msg_Get.rs, msg_Get.f⟩
theorem msg_Get.con : ConOk Tryz.prog msg_Get.c := walked (C := msg_Get.C) rfl (by kernel_rfl) (by kernel_rfl) (by kernel_rfl) rfl trivial fun ⟨⟨t, l⟩, n⟩ y h => by
 have h : msg_Get.f ((t, l), n) = some y := h
 unfold msg_Get.f at h
 split at h
 ·rename_i hc
  exact ⟨l.length + 1, by rw [msg_Get.eq]; exact (msg_Get_l t l hc n l _ 0 rfl (by omega)).trans h⟩
 ·cases h
@[reducible] def msg_Without.sg : List Shp := [.a (.pair (.str) (.sl zdE)), .v (.int .i64)]
@[reducible] def msg_Without.rs : Rs := .one (.a (.pair (.str) (.sl zdE)))
@[reducible] noncomputable def msg_Without.code : Code := Tryz.f106.body.getD .skip
noncomputable def msg_Without.C : Ctx := ⟨tab, [], [], ⟨[(3, [1, 4, 5, 12, 13, 14], 3)], []⟩⟩
noncomputable def msg_Without.l0 (n : Nat) (v0 : Int) (v1 : List zE) (v2 v3 : Int) (v4 : ByteArray) (v5 : List zE) (v6 v7 : ByteArray) : Option ((ByteArray × List ((Int × ByteArray)))) := run msg_Without.C (finOf msg_Without.C Tryz.f106 msg_Without.rs) n (todoAt 3 msg_Without.code) ⟨zJ :: .int .i64 v0 :: zJ :: zJ :: .ptr 1 0 :: .ptr 2 0 :: zJ :: zJ :: zJ :: zJ :: zJ :: zJ :: .sl none zdE v1 :: .int .i64 v2 :: .int .i64 v3 :: zJ :: zJ :: zJ :: zJ :: zJ :: zJ :: zJ :: zK [], [[.str v4, .sl none zdE v5], [.str v6, .nilsl], [.str v7, .nilsl]], []⟩
noncomputable def msg_Without.l1 (n : Nat) (v0 : Int) (v1 : List zE) (v2 v3 : Int) (v4 : ByteArray) (v5 : List zE) (v6 v7 : ByteArray) (v8 : List zE) : Option ((ByteArray × List ((Int × ByteArray)))) := run msg_Without.C (finOf msg_Without.C Tryz.f106 msg_Without.rs) n (todoAt 3 msg_Without.code) ⟨zJ :: .int .i64 v0 :: zJ :: zJ :: .ptr 1 0 :: .ptr 2 0 :: zJ :: zJ :: zJ :: zJ :: zJ :: zJ :: .sl none zdE v1 :: .int .i64 v2 :: .int .i64 v3 :: zJ :: zJ :: zJ :: zJ :: zJ :: zJ :: zJ :: zK [], [[.str v4, .sl none zdE v5], [.str v6, .nilsl], [.str v7, .sl (some 0) zdE v8]], [true]⟩
theorem msg_Without.l0_eq n v0 v1 v2 v3 v4 v5 v6 v7 : msg_Without.l0 (n + 1) v0 v1 v2 v3 v4 v5 v6 v7 =
 (if v3 < v2 then ((lget v1 v3).bind fun b0 =>
 (if ¬b0.1 = v0 then ((lcat 24 [] [b0]).bind fun b1 =>
 (msg_Without.l1 n v0 v1 v2 (IntKind.wrap .i64 (v3 + 1)) v4 v5 v6 v7 b1))
 else (msg_Without.l0 n v0 v1 v2 (IntKind.wrap .i64 (v3 + 1)) v4 v5 v6 v7)))
 else (some ((v7, [])))) := by kernel_rfl
theorem msg_Without.l1_eq n v0 v1 v2 v3 v4 v5 v6 v7 v8 : msg_Without.l1 (n + 1) v0 v1 v2 v3 v4 v5 v6 v7 v8 =
 (if v3 < v2 then ((lget v1 v3).bind fun b2 =>
 (if ¬b2.1 = v0 then ((lcat 24 v8 [b2]).bind fun b3 =>
 (msg_Without.l1 n v0 v1 v2 (IntKind.wrap .i64 (v3 + 1)) v4 v5 v6 v7 b3))
 else (msg_Without.l1 n v0 v1 v2 (IntKind.wrap .i64 (v3 + 1)) v4 v5 v6 v7 v8)))
 else (some ((v7, v8)))) := by kernel_rfl
theorem msg_Without.eq (n : Nat) (a0 : ByteArray) (a1 : List zE) (a2 : Int) : call msg_Without.C Tryz.f106 msg_Without.code msg_Without.sg msg_Without.rs n ((a0, a1), a2) =
 (msg_Without.l0 n a2 a1 (a1.length : Int) 0 a0 a1 (ByteArray.mk #[]) a0) := by kernel_rfl
def msg_Without.f (x : (ByteArray × List V) × Int) : Option (ByteArray × List V) := if x.1.2.length ≤ 5864062014700 then some (x.1.1, without x.2 x.1.2) else none
theorem msg_Without (t : ByteArray) (l : List V) (hl : l.length ≤ 5864062014700) (n : Int) : msg_Without.f ((t, l), n) = some (t, without n l) := if_pos hl
theorem without_cons (n : Int) (v : V) (m : List V) : without n (v :: m) = if ¬ v.1 = n then v :: without n m else without n m := by
 unfold without
 rw [List.filter_cons]
 by_cases h : v.1 = n <;> simp [h]
theorem msg_Without_l1 (t : ByteArray) (l : List V) (hl : l.length ≤ 5864062014700) (n : Int) : ∀ (m o : List V) (k i : Nat), l.drop i = m → o.length ≤ i → m.length < k → msg_Without.l1 k n l (l.length : Int) (i : Int) t l (ByteArray.mk #[]) t o = some (t, o ++ without n m)
 | [], o, k, i, hd, ho, hk => by
  obtain ⟨k, rfl⟩ : ∃ m, k = m + 1 := ⟨k - 1, by omega⟩
  have := dropn hd
  rw [msg_Without.l1_eq, if_neg (by omega)]; simp [without]
 | v :: m, o, k, i, hd, ho, hk => by
  obtain ⟨k, rfl⟩ : ∃ m, k = m + 1 := ⟨k - 1, by omega⟩
  obtain ⟨h1, h2, h3, h4⟩ := dropc hd
  have hk' : m.length < k := by simp at hk; omega
  rw [msg_Without.l1_eq, if_pos (by omega), h4, Option.bind_some, wrap_succ (by omega), without_cons]
  by_cases c : v.1 = n
  ·rw [if_neg (not_not_intro c), if_neg (not_not_intro c)]
   exact msg_Without_l1 t l hl n m o k (i + 1) h2 (by omega) hk'
  ·rw [if_pos c, if_pos c, lcat_ok _ _ _ (by simp only [List.length_cons, List.length_nil]; omega), Option.bind_some, msg_Without_l1 t l hl n m (o ++ [v]) k (i + 1) h2 (by rw [List.length_append]; simp only [List.length_cons, List.length_nil]; omega) hk']
   simp
theorem msg_Without_l0 (t : ByteArray) (l : List V) (hl : l.length ≤ 5864062014700) (n : Int) : ∀ (m : List V) (k i : Nat), l.drop i = m → m.length < k → msg_Without.l0 k n l (l.length : Int) (i : Int) t l (ByteArray.mk #[]) t = some (t, without n m)
 | [], k, i, hd, hk => by
  obtain ⟨k, rfl⟩ : ∃ m, k = m + 1 := ⟨k - 1, by omega⟩
  have := dropn hd
  rw [msg_Without.l0_eq, if_neg (by omega)]; rfl
 | v :: m, k, i, hd, hk => by
  obtain ⟨k, rfl⟩ : ∃ m, k = m + 1 := ⟨k - 1, by omega⟩
  obtain ⟨h1, h2, h3, h4⟩ := dropc hd
  have hk' : m.length < k := by simp at hk; omega
  rw [msg_Without.l0_eq, if_pos (by omega), h4, Option.bind_some, wrap_succ (by omega), without_cons]
  by_cases c : v.1 = n
  ·rw [if_neg (not_not_intro c), if_neg (not_not_intro c)]
   exact msg_Without_l0 t l hl n m k (i + 1) h2 hk'
  ·rw [if_pos c, if_pos c, lcat_ok _ _ _ (by simp), Option.bind_some]
   exact msg_Without_l1 t l hl n m [v] k (i + 1) h2 (by simp) hk'
noncomputable def msg_Without.c : Con := ⟨106, msg_Without.sg, msg_Without.rs, msg_Without.f⟩
theorem msg_Without.con : ConOk Tryz.prog msg_Without.c := walked (C := msg_Without.C) rfl (by kernel_rfl) (by kernel_rfl) (by kernel_rfl) rfl trivial fun ⟨⟨t, l⟩, n⟩ y h => by
 have h : msg_Without.f ((t, l), n) = some y := h
 unfold msg_Without.f at h
 split at h
 ·rename_i hc
  exact ⟨l.length + 1, by rw [msg_Without.eq]; exact (msg_Without_l0 t l hc n l _ 0 rfl (by omega)).trans h⟩
 ·cases h
@[reducible] def r14_both.sg : List Shp := []
@[reducible] def r14_both.rs : Rs := .one (.v (.sl (.sl (.int .i64))))
@[reducible] noncomputable def r14_both.code : Code := Tryz.f75.body.getD .skip
noncomputable def r14_both.C : Ctx := ⟨tab, [], [], ⟨[], []⟩⟩
theorem r14_both.eq (n : Nat)  : call r14_both.C Tryz.f75 r14_both.code r14_both.sg r14_both.rs n () =
 (some ([[2, 1, 2, 12, 19, 1, 2, 12, 19], [3, 1, 1, 6, 6, 1, 1, 6, 6], [4, 1, 1, 12, 12, 1, 1, 12, 12], [7, 1, 1, 10, 10, 1, 1, 10, 10], [11, 1, 1, 6, 6, 1, 1, 6, 6], [12, 1, 1, 6, 6, 1, 1, 12, 12], [13, 1, 1, 4, 4, 0, 0, 0, 0], [14, 1, 1, 4, 4, 1, 1, 4, 4], [18, 1, 1, 4, 4, 0, 0, 0, 0], [22, 1, 1, 3, 3, 3, 1, 12, 12], [23, 1, 1, 3, 3, 1, 1, 3, 3], [26, 0, 0, 0, 0, 1, 1, 4, 4], [32, 1, 2, 1, 11, 1, 2, 1, 11], [35, 4, 2, 1, 37, 4, 2, 1, 37], [37, 3, 1, 12, 12, 3, 1, 12, 12], [38, 3, 1, 6, 6, 3, 1, 6, 6], [39, 3, 1, 2, 2, 1, 1, 3, 3], [41, 4, 1, 8, 8, 4, 1, 8, 8], [42, 4, 1, 15, 15, 4, 1, 15, 15], [43, 4, 1, 40, 40, 4, 2, 1, 99], [48, 4, 3, 1, 999, 4, 3, 1, 999], [49, 1, 1, 3, 3, 1, 1, 3, 3], [52, 5, 1, 8, 8, 5, 1, 8, 8], [55, 6, 3, 1, 255, 6, 3, 1, 255], [64, 5, 1, 8, 8, 5, 1, 8, 8], [70, 1, 1, 3, 3, 1, 1, 3, 3], [90, 1, 1, 42, 42, 0, 0, 0, 0], [102, 4, 2, 1, 28, 4, 2, 1, 28], [128, 5, 1, 8, 8, 5, 1, 8, 8]])) := by kernel_rfl
noncomputable def r14_both.f : El (sgTy r14_both.sg) → Option (El r14_both.rs.ty) := fun x => match x with
 | () =>
 (some ([[2, 1, 2, 12, 19, 1, 2, 12, 19], [3, 1, 1, 6, 6, 1, 1, 6, 6], [4, 1, 1, 12, 12, 1, 1, 12, 12], [7, 1, 1, 10, 10, 1, 1, 10, 10], [11, 1, 1, 6, 6, 1, 1, 6, 6], [12, 1, 1, 6, 6, 1, 1, 12, 12], [13, 1, 1, 4, 4, 0, 0, 0, 0], [14, 1, 1, 4, 4, 1, 1, 4, 4], [18, 1, 1, 4, 4, 0, 0, 0, 0], [22, 1, 1, 3, 3, 3, 1, 12, 12], [23, 1, 1, 3, 3, 1, 1, 3, 3], [26, 0, 0, 0, 0, 1, 1, 4, 4], [32, 1, 2, 1, 11, 1, 2, 1, 11], [35, 4, 2, 1, 37, 4, 2, 1, 37], [37, 3, 1, 12, 12, 3, 1, 12, 12], [38, 3, 1, 6, 6, 3, 1, 6, 6], [39, 3, 1, 2, 2, 1, 1, 3, 3], [41, 4, 1, 8, 8, 4, 1, 8, 8], [42, 4, 1, 15, 15, 4, 1, 15, 15], [43, 4, 1, 40, 40, 4, 2, 1, 99], [48, 4, 3, 1, 999, 4, 3, 1, 999], [49, 1, 1, 3, 3, 1, 1, 3, 3], [52, 5, 1, 8, 8, 5, 1, 8, 8], [55, 6, 3, 1, 255, 6, 3, 1, 255], [64, 5, 1, 8, 8, 5, 1, 8, 8], [70, 1, 1, 3, 3, 1, 1, 3, 3], [90, 1, 1, 42, 42, 0, 0, 0, 0], [102, 4, 2, 1, 28, 4, 2, 1, 28], [128, 5, 1, 8, 8, 5, 1, 8, 8]]))
noncomputable def r14_both.c : Con := ⟨75, r14_both.sg, r14_both.rs, r14_both.f⟩
theorem r14_both.con : ConOk Tryz.prog r14_both.c := walked (C := r14_both.C) rfl (by kernel_rfl) (by kernel_rfl) (by kernel_rfl) rfl trivial fun ⟨⟩ y h => ⟨0, (r14_both.eq 0 ).trans h⟩
@[reducible] def r14_Schema.sg : List Shp := [.v (.int .i64)]
@[reducible] def r14_Schema.rs : Rs := .one (.a zdS)
@[reducible] noncomputable def r14_Schema.code : Code := Tryz.f34.body.getD .skip
noncomputable def r14_Schema.C : Ctx := ⟨tab, [r14_both.c], [], ⟨[(4, [0, 2, 3, 4, 5], 2)], []⟩⟩
noncomputable def r14_Schema.l0 (n : Nat) (v0 : Int) (v1 : List (List Int)) (v2 v3 v4 v5 v6 : Int) : Option ((Int × (Int × List ((Int × (Int × (Int × (Int × Int)))))))) := run r14_Schema.C (finOf r14_Schema.C Tryz.f34 r14_Schema.rs) n (todoAt 4 r14_Schema.code) ⟨.int .i64 v0 :: zJ :: .ptr 0 0 :: .ptr 1 0 :: .sl none (.sl (.int .i64)) v1 :: .int .i64 v2 :: zJ :: zJ :: zJ :: zJ :: zK (zK (zK (zK (zK (zK []))))), [[.int .i64 v3, .int .i64 v4, .nilsl], [.int .i64 v5, .int .i64 v6, .nilsl]], []⟩
noncomputable def r14_Schema.l1 (n : Nat) (v0 : Int) (v1 : List (List Int)) (v2 v3 v4 v5 v6 : Int) (v7 : List z5) : Option ((Int × (Int × List ((Int × (Int × (Int × (Int × Int)))))))) := run r14_Schema.C (finOf r14_Schema.C Tryz.f34 r14_Schema.rs) n (todoAt 4 r14_Schema.code) ⟨.int .i64 v0 :: zJ :: .ptr 0 0 :: .ptr 1 0 :: .sl none (.sl (.int .i64)) v1 :: .int .i64 v2 :: zJ :: zJ :: zJ :: zJ :: zK (zK (zK (zK (zK (zK []))))), [[.int .i64 v3, .int .i64 v4, .nilsl], [.int .i64 v5, .int .i64 v6, .sl (some 0) zd5 v7]], [true]⟩
theorem r14_Schema.l0_eq n v0 v1 v2 v3 v4 v5 v6 : r14_Schema.l0 (n + 1) v0 v1 v2 v3 v4 v5 v6 =
 (if v2 < (v1.length : Int) then ((lget v1 v2).bind fun b1 =>
 ((lsub b1 (IntKind.wrap .i64 (1 + IntKind.wrap .i64 (4 * v0))) (IntKind.wrap .i64 (5 + IntKind.wrap .i64 (4 * v0)))).bind fun b2 =>
 ((lget b2 0).bind fun b3 =>
 (if b3 > 0 then ((lget v1 v2).bind fun b4 =>
 ((lget b4 0).bind fun b5 =>
 ((lget b2 0).bind fun b6 =>
 ((lget b2 1).bind fun b7 =>
 ((lget b2 2).bind fun b8 =>
 ((lget b2 3).bind fun b9 =>
 ((lcat 40 [] [(b5, b6, b7, b8, b9)]).bind fun b10 =>
 (r14_Schema.l1 n v0 v1 (IntKind.wrap .i64 (v2 + 1)) v3 v4 v5 v6 b10))))))))
 else (r14_Schema.l0 n v0 v1 (IntKind.wrap .i64 (v2 + 1)) v3 v4 v5 v6)))))
 else (some ((v5, v6, [])))) := by kernel_rfl
theorem r14_Schema.l1_eq n v0 v1 v2 v3 v4 v5 v6 v7 : r14_Schema.l1 (n + 1) v0 v1 v2 v3 v4 v5 v6 v7 =
 (if v2 < (v1.length : Int) then ((lget v1 v2).bind fun b11 =>
 ((lsub b11 (IntKind.wrap .i64 (1 + IntKind.wrap .i64 (4 * v0))) (IntKind.wrap .i64 (5 + IntKind.wrap .i64 (4 * v0)))).bind fun b12 =>
 ((lget b12 0).bind fun b13 =>
 (if b13 > 0 then ((lget v1 v2).bind fun b14 =>
 ((lget b14 0).bind fun b15 =>
 ((lget b12 0).bind fun b16 =>
 ((lget b12 1).bind fun b17 =>
 ((lget b12 2).bind fun b18 =>
 ((lget b12 3).bind fun b19 =>
 ((lcat 40 v7 [(b15, b16, b17, b18, b19)]).bind fun b20 =>
 (r14_Schema.l1 n v0 v1 (IntKind.wrap .i64 (v2 + 1)) v3 v4 v5 v6 b20))))))))
 else (r14_Schema.l1 n v0 v1 (IntKind.wrap .i64 (v2 + 1)) v3 v4 v5 v6 v7)))))
 else (some ((v5, v6, v7)))) := by kernel_rfl
theorem r14_Schema.eq (n : Nat) (a0 : Int) : call r14_Schema.C Tryz.f34 r14_Schema.code r14_Schema.sg r14_Schema.rs n a0 =
 ((r14_both.f ()).bind fun b0 =>
 (r14_Schema.l0 n a0 b0 0 0 0 (IntKind.wrap .i64 (a0 + 1)) a0)) := by kernel_rfl
def pickS (a : Nat) : List Int → List S5
 | [n, c0, f0, i0, m0, c1, f1, i1, m1] => if a = 0 then (if c0 > 0 then [(n, c0, f0, i0, m0)] else []) else (if c1 > 0 then [(n, c1, f1, i1, m1)] else [])
 | _ => []
theorem pick_row (a : Nat) (ha : a = 0 ∨ a = 1) (r : List Int) (hr : r.length = 9) : ∃ n c f i m, lget r 0 = some n ∧ lsub r (IntKind.wrap .i64 (1 + IntKind.wrap .i64 (4 * (a : Int)))) (IntKind.wrap .i64 (5 + IntKind.wrap .i64 (4 * (a : Int)))) = some [c, f, i, m] ∧ pickS a r = if c > 0 then [(n, c, f, i, m)] else [] := by
 match r, hr with
 | [n, c0, f0, i0, m0, c1, f1, i1, m1], _ =>
  rcases ha with rfl | rfl
  ·exact ⟨n, c0, f0, i0, m0, rfl, rfl, rfl⟩
  ·exact ⟨n, c1, f1, i1, m1, rfl, rfl, rfl⟩
theorem r14_Schema_l1 (a : Nat) (ha : a = 0 ∨ a = 1) (t : List (List Int)) (ht : ∀ r ∈ t, r.length = 9) (hl : t.length ≤ 1000) (u v w x : Int) : ∀ (m : List (List Int)) (o : List S5) (k i : Nat), t.drop i = m → o.length ≤ i → m.length < k →
  r14_Schema.l1 k (a : Int) t (i : Int) u v w x o = some (w, x, o ++ m.flatMap (pickS a))
 | [], o, k, i, hd, ho, hk => by
  obtain ⟨k, rfl⟩ : ∃ m, k = m + 1 := ⟨k - 1, by omega⟩
  have := dropn hd
  rw [r14_Schema.l1_eq, if_neg (by omega)]; simp
 | r :: m, o, k, i, hd, ho, hk => by
  obtain ⟨k, rfl⟩ : ∃ m, k = m + 1 := ⟨k - 1, by omega⟩
  obtain ⟨h1, h2, h3, h4⟩ := dropc hd
  have hk' : m.length < k := by simp at hk; omega
  have hr : r.length = 9 := ht r (by have := List.drop_subset i t (a := r); rw [hd] at this; exact this (List.mem_cons_self ..))
  obtain ⟨n, c, f, p, q, e1, e2, e3⟩ := pick_row a ha r hr
  have g0 : lget [c, f, p, q] 0 = some c := rfl
  have g1 : lget [c, f, p, q] 1 = some f := rfl
  have g2 : lget [c, f, p, q] 2 = some p := rfl
  have g3 : lget [c, f, p, q] 3 = some q := rfl
  rw [r14_Schema.l1_eq, if_pos (by omega), h4, Option.bind_some, e2, Option.bind_some, g0, Option.bind_some, wrap_succ (by omega), List.flatMap_cons, e3]
  by_cases c0 : c > 0
  ·rw [if_pos c0, if_pos c0, Option.bind_some, e1, Option.bind_some, Option.bind_some, g1, Option.bind_some, g2, Option.bind_some, g3, Option.bind_some, lcat_ok _ _ _ (by simp only [List.length_cons, List.length_nil]; omega), Option.bind_some, r14_Schema_l1 a ha t ht hl u v w x m _ k (i + 1) h2 (by rw [List.length_append]; simp only [List.length_cons, List.length_nil]; omega) hk', List.append_assoc]
  ·rw [if_neg c0, if_neg c0, r14_Schema_l1 a ha t ht hl u v w x m o k (i + 1) h2 (by omega) hk']; rfl
theorem r14_Schema_l0 (a : Nat) (ha : a = 0 ∨ a = 1) (t : List (List Int)) (ht : ∀ r ∈ t, r.length = 9) (hl : t.length ≤ 1000) (u v w x : Int) : ∀ (m : List (List Int)) (k i : Nat), t.drop i = m → m.length < k →
  r14_Schema.l0 k (a : Int) t (i : Int) u v w x = some (w, x, m.flatMap (pickS a))
 | [], k, i, hd, hk => by
  obtain ⟨k, rfl⟩ : ∃ m, k = m + 1 := ⟨k - 1, by omega⟩
  have := dropn hd
  rw [r14_Schema.l0_eq, if_neg (by omega)]; rfl
 | r :: m, k, i, hd, hk => by
  obtain ⟨k, rfl⟩ : ∃ m, k = m + 1 := ⟨k - 1, by omega⟩
  obtain ⟨h1, h2, h3, h4⟩ := dropc hd
  have hk' : m.length < k := by simp at hk; omega
  have hr : r.length = 9 := ht r (by have := List.drop_subset i t (a := r); rw [hd] at this; exact this (List.mem_cons_self ..))
  obtain ⟨n, c, f, p, q, e1, e2, e3⟩ := pick_row a ha r hr
  have g0 : lget [c, f, p, q] 0 = some c := rfl
  have g1 : lget [c, f, p, q] 1 = some f := rfl
  have g2 : lget [c, f, p, q] 2 = some p := rfl
  have g3 : lget [c, f, p, q] 3 = some q := rfl
  rw [r14_Schema.l0_eq, if_pos (by omega), h4, Option.bind_some, e2, Option.bind_some, g0, Option.bind_some, wrap_succ (by omega), List.flatMap_cons, e3]
  by_cases c0 : c > 0
  ·rw [if_pos c0, if_pos c0, Option.bind_some, e1, Option.bind_some, Option.bind_some, g1, Option.bind_some, g2, Option.bind_some, g3, Option.bind_some, lcat_ok _ _ _ (by simp), Option.bind_some]
   exact r14_Schema_l1 a ha t ht hl u v w x m [(n, c, f, p, q)] k (i + 1) h2 (by simp) hk'
  ·rw [if_neg c0, if_neg c0, r14_Schema_l0 a ha t ht hl u v w x m k (i + 1) h2 hk']; rfl
noncomputable def tabS : List (List Int) := (r14_both.f ()).getD []
theorem tabS_eq : r14_both.f () = some tabS := rfl
theorem tabS_rows : ∀ r ∈ tabS, r.length = 9 := by
 have : tabS.all (fun r => decide (r.length = 9)) = true := by decide +kernel
 intro r hr
 have := List.all_eq_true.1 this r hr
 simpa using this
theorem tabS_length : tabS.length ≤ 1000 := by decide +kernel
noncomputable def r14_Schema.f (a : Int) : Option (Int × Int × List S5) := if a = 0 ∨ a = 1 then some (a + 1, a, tabS.flatMap (pickS a.toNat)) else none
theorem r14_Schema.run (a : Nat) (ha : a = 0 ∨ a = 1) : call r14_Schema.C Tryz.f34 r14_Schema.code r14_Schema.sg r14_Schema.rs (tabS.length + 1) (a : Int) = some ((a : Int) + 1, (a : Int), tabS.flatMap (pickS a)) := by
 rw [r14_Schema.eq, tabS_eq, Option.bind_some, wrap_id (by omega) (by omega)]
 exact r14_Schema_l0 a ha tabS tabS_rows tabS_length 0 0 _ _ tabS _ 0 rfl (by omega)
noncomputable def r14_Schema.c : Con := ⟨34, r14_Schema.sg, r14_Schema.rs, r14_Schema.f⟩
theorem r14_Schema.con : ConOk Tryz.prog r14_Schema.c := walked (C := r14_Schema.C) rfl (by kernel_rfl) (by kernel_rfl) (by kernel_rfl) rfl ⟨r14_both.con, trivial⟩ fun a y h => by
 have h : r14_Schema.f a = some y := h
 unfold r14_Schema.f at h
 split at h
 ·rename_i hc
  rcases hc with rfl | rfl
  ·exact ⟨_, (r14_Schema.run 0 (.inl rfl)).trans h⟩
  ·exact ⟨_, (r14_Schema.run 1 (.inr rfl)).trans h⟩
 ·cases h
end Go.Proofs.YtkaihbkfobiejaaGreatDoor.Xe
