/- What the reference's checks of schemas and messages answer. -/
import Derived.Test.YtkaihbkfobiejaaGreatDoorEr11
import Derived.Test.YtkaihbkfobiejaaGreatDoorEr16
namespace Go.Proofs.YtkaihbkfobiejaaGreatDoor.Xe
open Go Go.RowKit Go.Proofs.YtkaihbkfobiejaaGreatDoor.Sp
set_option linter.unusedVariables false
set_option linter.unusedSimpArgs false
set_option maxRecDepth 100000
theorem groatref11_Check' (v : S5) : groatref11_Check.f v = some (specE v.1 v.2.1 v.2.2.1 v.2.2.2.1 v.2.2.2.2) := groatref11_Check v.1 v.2.1 v.2.2.1 v.2.2.2.1 v.2.2.2.2
/-! ### groatref13_Check -/
@[reducible] def groatref13_Check.sg : List Shp := [.a (.pair (.int .i64) (.pair (.int .i64) (.sl (.pair (.int .i64) (.pair (.int .i64) (.pair (.int .i64) (.pair (.int .i64) (.int .i64))))))))]
@[reducible] def groatref13_Check.rs : Rs := .tup [.v (.int .i64), .v (.int .i64)]
@[reducible] noncomputable def groatref13_Check.code : Code := Tryz.f54.body.getD .skip
noncomputable def groatref13_Check.C : Ctx := ⟨tab, [groatref11_Check.c], [], ⟨[(7, [1, 4, 5], 1)], []⟩⟩
noncomputable def groatref13_Check.l0 (n : Nat) (v0 : Int) (v1 : Int) (v2 : Int) (v3 : Int) (v4 : List ((Int × (Int × (Int × (Int × Int)))))) : Option ((Int × Int)) := run groatref13_Check.C (finOf groatref13_Check.C Tryz.f54 groatref13_Check.rs) n (todoAt 7 groatref13_Check.code) ⟨[.junk, .ptr 0 0, .junk, .junk, .int .i64 v0, .int .i64 v1, .junk, .junk, .junk, .junk, .junk, .junk, .junk, .junk, .junk, .junk, .junk, .junk, .junk, .junk, .junk, .junk, .junk, .junk, .junk, .junk, .junk, .junk, .junk, .junk, .junk, .junk, .junk, .junk, .junk, .junk, .junk, .junk, .junk, .junk, .junk, .junk, .junk, .junk, .junk, .junk, .junk, .junk, .junk, .junk, .junk, .junk, .junk, .junk, .junk], [[.int .i64 v2, .int .i64 v3, .sl none (.pair (.int .i64) (.pair (.int .i64) (.pair (.int .i64) (.pair (.int .i64) (.int .i64))))) v4]], []⟩
-- the loop at region 7
theorem groatref13_Check.l0_eq (n : Nat) (v0 : Int) (v1 : Int) (v2 : Int) (v3 : Int) (v4 : List ((Int × (Int × (Int × (Int × Int)))))) : groatref13_Check.l0 (n + 1) v0 v1 v2 v3 v4 =
  (if v1 < (↑(List.length v4) : Int) then ((lget v4 v1).bind fun b0 =>
   ((groatref11_Check.f b0).bind fun b1 =>
   (if ¬b1 = 0 then (some ((b1, v1)))
   else ((lget v4 v1).bind fun b2 =>
    (if Prod.fst b2 ≤ v0 then (some ((11, v1)))
    else ((lget v4 v1).bind fun b3 =>
     (groatref13_Check.l0 n (Prod.fst b3) (IntKind.wrap IntKind.i64 (v1 + 1)) v2 v3 v4)))))))
  else (some ((0, 0)))) := by kernel_rfl
theorem groatref13_Check.eq (n : Nat) (a0 : Int) (a1 : Int) (a2 : List ((Int × (Int × (Int × (Int × Int)))))) : call groatref13_Check.C Tryz.f54 groatref13_Check.code groatref13_Check.sg groatref13_Check.rs n (a0, (a1, a2)) =
  (if ¬a0 = 1 then (if ¬a0 = 2 then (some ((1, -1)))
   else (if a1 < 0 then (some ((7, -1)))
    else (if a1 > 9 then (some ((7, -1)))
     else (groatref13_Check.l0 n 0 0 a0 a1 a2))))
  else (if a1 < 0 then (some ((7, -1)))
   else (if a1 > 9 then (some ((7, -1)))
    else (groatref13_Check.l0 n 0 0 a0 a1 a2)))) := by kernel_rfl
def groatref13_Check.f (x : Int × Int × List S5) : Option (Int × Int) := if x.2.2.length ≤ 1000000 then some (schemaE x) else none
theorem groatref13_Check (a b : Int) (s : List S5) (hs : s.length ≤ 1000000) : groatref13_Check.f (a, b, s) = some (schemaE (a, b, s)) := if_pos hs
theorem groatref13_Check_l (s : List S5) (hs : s.length ≤ 1000000) (a b : Int) : ∀ (m : List S5) (k i : Nat) (p : Int), s.drop i = m → m.length < k → groatref13_Check.l0 k p (i : Int) a b s = some (schE p i m)
  | [], k, i, p, hd, hk => by
    obtain ⟨k, rfl⟩ : ∃ m, k = m + 1 := ⟨k - 1, by omega⟩
    have := dropn hd
    rw [groatref13_Check.l0_eq, if_neg (by omega)]; rfl
  | v :: m, k, i, p, hd, hk => by
    obtain ⟨k, rfl⟩ : ∃ m, k = m + 1 := ⟨k - 1, by omega⟩
    obtain ⟨h1, h2, h3, h4⟩ := dropc hd
    have hk' : m.length < k := by simp at hk; omega
    rw [groatref13_Check.l0_eq, if_pos (by omega), h4, Option.bind_some, groatref11_Check', Option.bind_some, Option.bind_some, Option.bind_some, wrap_succ (by omega), groatref13_Check_l s hs a b m k (i + 1) v.1 h2 hk', schE]
    by_cases c1 : specE v.1 v.2.1 v.2.2.1 v.2.2.2.1 v.2.2.2.2 = 0
    · rw [if_neg (not_not_intro c1), if_neg (not_not_intro c1)]
      by_cases c2 : v.1 ≤ p
      · rw [if_pos c2, if_pos c2]
      · rw [if_neg c2, if_neg c2]
    · rw [if_pos c1, if_pos c1]
theorem groatref13_Check.run (a b : Int) (s : List S5) (hs : s.length ≤ 1000000) : call groatref13_Check.C Tryz.f54 groatref13_Check.code groatref13_Check.sg groatref13_Check.rs (s.length + 1) (a, b, s) = some (schemaE (a, b, s)) := by
  have hr := groatref13_Check_l s hs a b s (s.length + 1) 0 0 rfl (by omega)
  have hr : groatref13_Check.l0 (s.length + 1) 0 0 a b s = _ := hr
  rw [groatref13_Check.eq, hr]
  unfold schemaE
  dsimp only
  by_cases h1 : a = 1
  · rw [if_neg (show ¬ ¬ a = 1 from fun e => e h1), if_neg (show ¬ ¬ (a = 1 ∨ a = 2) from fun e => e (.inl h1))]
    by_cases h2 : b < 0
    · rw [if_pos h2, if_pos (.inl h2)]
    · by_cases h3 : b > 9
      · rw [if_neg h2, if_pos h3, if_pos (.inr h3)]
      · rw [if_neg h2, if_neg h3, if_neg (show ¬ (b < 0 ∨ 9 < b) by omega)]
  · rw [if_pos h1]
    by_cases h4 : a = 2
    · rw [if_neg (show ¬ ¬ a = 2 from fun e => e h4), if_neg (show ¬ ¬ (a = 1 ∨ a = 2) from fun e => e (.inr h4))]
      by_cases h2 : b < 0
      · rw [if_pos h2, if_pos (.inl h2)]
      · by_cases h3 : b > 9
        · rw [if_neg h2, if_pos h3, if_pos (.inr h3)]
        · rw [if_neg h2, if_neg h3, if_neg (show ¬ (b < 0 ∨ 9 < b) by omega)]
    · rw [if_pos h4, if_pos (show ¬ (a = 1 ∨ a = 2) from fun e => e.elim h1 h4)]
noncomputable def groatref13_Check.c : Con := ⟨54, groatref13_Check.sg, groatref13_Check.rs, groatref13_Check.f⟩
theorem groatref13_Check.con : ConOk Tryz.prog groatref13_Check.c := walked (C := groatref13_Check.C) rfl (by kernel_rfl) (by kernel_rfl) (by kernel_rfl) rfl ⟨groatref11_Check.con, trivial⟩ fun ⟨a, b, s⟩ y h => by
  have h : groatref13_Check.f (a, b, s) = some y := h
  unfold groatref13_Check.f at h
  split at h
  · rename_i hc
    exact ⟨s.length + 1, (groatref13_Check.run a b s hc).trans h⟩
  · cases h
/-! ### groatref13_Right -/
@[reducible] def groatref13_Right.sg : List Shp := [.a (.pair (.int .i64) (.pair (.int .i64) (.sl (.pair (.int .i64) (.pair (.int .i64) (.pair (.int .i64) (.pair (.int .i64) (.int .i64))))))))]
@[reducible] def groatref13_Right.rs : Rs := .one (.v (.bool))
@[reducible] noncomputable def groatref13_Right.code : Code := Tryz.f18.body.getD .skip
noncomputable def groatref13_Right.C : Ctx := ⟨tab, [groatref13_Check.c], [], ⟨[], []⟩⟩
theorem groatref13_Right.eq (n : Nat) (a0 : Int) (a1 : Int) (a2 : List ((Int × (Int × (Int × (Int × Int)))))) : call groatref13_Right.C Tryz.f18 groatref13_Right.code groatref13_Right.sg groatref13_Right.rs n (a0, (a1, a2)) =
  ((groatref13_Check.f (a0, a1, a2)).bind fun b0 =>
  (some (decide (Prod.fst b0 = 0)))) := by kernel_rfl
noncomputable def groatref13_Right.f : El (sgTy groatref13_Right.sg) → Option (El groatref13_Right.rs.ty) := fun x => match x with
  | (a0, (a1, a2)) =>
  ((groatref13_Check.f (a0, a1, a2)).bind fun b0 =>
  (some (decide (Prod.fst b0 = 0))))
noncomputable def groatref13_Right.c : Con := ⟨18, groatref13_Right.sg, groatref13_Right.rs, groatref13_Right.f⟩
theorem groatref13_Right.con : ConOk Tryz.prog groatref13_Right.c := walked (C := groatref13_Right.C) rfl (by kernel_rfl) (by kernel_rfl) (by kernel_rfl) rfl ⟨groatref13_Check.con, trivial⟩ fun ⟨a0, ⟨a1, a2⟩⟩ y h => ⟨0, (groatref13_Right.eq 0 a0 a1 a2).trans h⟩
theorem groatref13_Right (a b : Int) (s : List S5) (hs : s.length ≤ 1000000) : groatref13_Right.f (a, b, s) = some (decide ((schemaE (a, b, s)).1 = 0)) := by
  simp only [groatref13_Right.f]
  rw [groatref13_Check a b s hs, Option.bind_some]
/-! ### groatref13_Find -/
@[reducible] def groatref13_Find.sg : List Shp := [.a (.pair (.int .i64) (.pair (.int .i64) (.sl (.pair (.int .i64) (.pair (.int .i64) (.pair (.int .i64) (.pair (.int .i64) (.int .i64)))))))), .v (.int .i64)]
@[reducible] def groatref13_Find.rs : Rs := .one (.v (.int .i64))
@[reducible] noncomputable def groatref13_Find.code : Code := Tryz.f139.body.getD .skip
noncomputable def groatref13_Find.C : Ctx := ⟨tab, [], [], ⟨[(2, [1, 2, 5], 1)], []⟩⟩
noncomputable def groatref13_Find.l0 (n : Nat) (v0 : Int) (v1 : Int) (v2 : Int) (v3 : Int) (v4 : List ((Int × (Int × (Int × (Int × Int)))))) : Option Int := run groatref13_Find.C (finOf groatref13_Find.C Tryz.f139 groatref13_Find.rs) n (todoAt 2 groatref13_Find.code) ⟨[.junk, .int .i64 v0, .ptr 0 0, .junk, .junk, .int .i64 v1, .junk, .junk, .junk, .junk, .junk, .junk, .junk, .junk, .junk, .junk, .junk, .junk, .junk, .junk, .junk, .junk], [[.int .i64 v2, .int .i64 v3, .sl none (.pair (.int .i64) (.pair (.int .i64) (.pair (.int .i64) (.pair (.int .i64) (.int .i64))))) v4]], []⟩
-- the loop at region 2
theorem groatref13_Find.l0_eq (n : Nat) (v0 : Int) (v1 : Int) (v2 : Int) (v3 : Int) (v4 : List ((Int × (Int × (Int × (Int × Int)))))) : groatref13_Find.l0 (n + 1) v0 v1 v2 v3 v4 =
  (if v1 < (↑(List.length v4) : Int) then ((lget v4 v1).bind fun b0 =>
   (if Prod.fst b0 = v0 then (some v1)
   else (groatref13_Find.l0 n v0 (IntKind.wrap IntKind.i64 (v1 + 1)) v2 v3 v4)))
  else (some (-1))) := by kernel_rfl
theorem groatref13_Find.eq (n : Nat) (a0 : Int) (a1 : Int) (a2 : List ((Int × (Int × (Int × (Int × Int)))))) (a3 : Int) : call groatref13_Find.C Tryz.f139 groatref13_Find.code groatref13_Find.sg groatref13_Find.rs n ((a0, (a1, a2)), a3) =
  (groatref13_Find.l0 n a3 0 a0 a1 a2) := by kernel_rfl
def idxS (n : Int) : Nat → List S5 → Int
  | _, [] => -1
  | i, v :: m => if v.1 = n then (i : Int) else idxS n (i + 1) m
theorem idxS_find (n : Int) (s : List S5) : ∀ (m : List S5) (i : Nat), s.drop i = m → (idxS n i m < 0 ∧ (findS n m).2 = false) ∨ (¬ idxS n i m < 0 ∧ (findS n m).2 = true ∧ lget s (idxS n i m) = some (findS n m).1)
  | [], i, _ => .inl ⟨by show (-1 : Int) < 0; decide, rfl⟩
  | v :: m, i, hd => by
    obtain ⟨h1, h2, h3, h4⟩ := dropc hd
    rw [idxS, findS]
    split
    · exact .inr ⟨by omega, rfl, h4⟩
    · exact idxS_find n s m (i + 1) h2
def groatref13_Find.f (x : (Int × Int × List S5) × Int) : Option Int := if x.1.2.2.length ≤ 1000000 then some (idxS x.2 0 x.1.2.2) else none
theorem groatref13_Find (a b : Int) (s : List S5) (hs : s.length ≤ 1000000) (n : Int) : groatref13_Find.f ((a, b, s), n) = some (idxS n 0 s) := if_pos hs
theorem groatref13_Find_l (s : List S5) (hs : s.length ≤ 1000000) (n a b : Int) : ∀ (m : List S5) (k i : Nat), s.drop i = m → m.length < k → groatref13_Find.l0 k n (i : Int) a b s = some (idxS n i m)
  | [], k, i, hd, hk => by
    obtain ⟨k, rfl⟩ : ∃ m, k = m + 1 := ⟨k - 1, by omega⟩
    have := dropn hd
    rw [groatref13_Find.l0_eq, if_neg (by omega)]; rfl
  | v :: m, k, i, hd, hk => by
    obtain ⟨k, rfl⟩ : ∃ m, k = m + 1 := ⟨k - 1, by omega⟩
    obtain ⟨h1, h2, h3, h4⟩ := dropc hd
    have hk' : m.length < k := by simp at hk; omega
    rw [groatref13_Find.l0_eq, if_pos (by omega), h4, Option.bind_some, wrap_succ (by omega), groatref13_Find_l s hs n a b m k (i + 1) h2 hk', idxS]
    split <;> rfl
noncomputable def groatref13_Find.c : Con := ⟨139, groatref13_Find.sg, groatref13_Find.rs, groatref13_Find.f⟩
theorem groatref13_Find.con : ConOk Tryz.prog groatref13_Find.c := walked (C := groatref13_Find.C) rfl (by kernel_rfl) (by kernel_rfl) (by kernel_rfl) rfl trivial fun ⟨⟨a, b, s⟩, n⟩ y h => by
  have h : groatref13_Find.f ((a, b, s), n) = some y := h
  unfold groatref13_Find.f at h
  split at h
  · rename_i hc
    exact ⟨s.length + 1, by rw [groatref13_Find.eq]; exact (groatref13_Find_l s hc n a b s _ 0 rfl (by omega)).trans h⟩
  · cases h
/-! ### groatref01_Digit -/
@[reducible] def groatref01_Digit.sg : List Shp := [.v (.int .u8)]
@[reducible] def groatref01_Digit.rs : Rs := .one (.v (.bool))
@[reducible] noncomputable def groatref01_Digit.code : Code := Tryz.f196.body.getD .skip
noncomputable def groatref01_Digit.C : Ctx := ⟨tab, [], [], ⟨[], []⟩⟩
theorem groatref01_Digit.eq (n : Nat) (a0 : Int) : call groatref01_Digit.C Tryz.f196 groatref01_Digit.code groatref01_Digit.sg groatref01_Digit.rs n a0 =
  (if a0 ≥ 48 then (some (decide (a0 ≤ 57)))
  else (some false)) := by kernel_rfl
noncomputable def groatref01_Digit.f : El (sgTy groatref01_Digit.sg) → Option (El groatref01_Digit.rs.ty) := fun x => match x with
  | a0 =>
  (if a0 ≥ 48 then (some (decide (a0 ≤ 57)))
  else (some false))
noncomputable def groatref01_Digit.c : Con := ⟨196, groatref01_Digit.sg, groatref01_Digit.rs, groatref01_Digit.f⟩
theorem groatref01_Digit.con : ConOk Tryz.prog groatref01_Digit.c := walked (C := groatref01_Digit.C) rfl (by kernel_rfl) (by kernel_rfl) (by kernel_rfl) rfl trivial fun a0 y h => ⟨0, (groatref01_Digit.eq 0 a0).trans h⟩
/-! ### groatref01_All -/
@[reducible] def groatref01_All.sg : List Shp := [.v (.str)]
@[reducible] def groatref01_All.rs : Rs := .one (.v (.bool))
@[reducible] noncomputable def groatref01_All.code : Code := Tryz.f187.body.getD .skip
noncomputable def groatref01_All.C : Ctx := ⟨tab, [groatref01_Digit.c], [], ⟨[(2, [0, 3], 0)], []⟩⟩
noncomputable def groatref01_All.l0 (n : Nat) (v0 : ByteArray) (v1 : Int) : Option Bool := run groatref01_All.C (finOf groatref01_All.C Tryz.f187 groatref01_All.rs) n (todoAt 2 groatref01_All.code) ⟨[.str v0, .junk, .junk, .int .i64 v1, .junk, .junk, .junk, .junk, .junk, .junk, .junk, .junk, .junk, .junk, .junk], [], []⟩
-- the loop at region 2
theorem groatref01_All.l0_eq (n : Nat) (v0 : ByteArray) (v1 : Int) : groatref01_All.l0 (n + 1) v0 v1 =
  (if v1 < (↑(ByteArray.size v0) : Int) then ((bget v0 v1).bind fun b0 =>
   ((groatref01_Digit.f (↑(UInt8.toNat b0) : Int)).bind fun b1 =>
   (if ¬b1 = true then (some false)
   else (groatref01_All.l0 n v0 (IntKind.wrap IntKind.i64 (v1 + 1))))))
  else (some true)) := by kernel_rfl
theorem groatref01_All.eq (n : Nat) (a0 : ByteArray) : call groatref01_All.C Tryz.f187 groatref01_All.code groatref01_All.sg groatref01_All.rs n a0 =
  (groatref01_All.l0 n a0 0) := by kernel_rfl
def groatref01_All.f (s : ByteArray) : Option Bool := if s.size ≤ 1000000000000 then some ((bl s).all dig) else none
theorem groatref01_All (l : List UInt8) (hl : l.length ≤ 1000000000000) : groatref01_All.f (sb l) = some (l.all dig) := by
  unfold groatref01_All.f
  rw [if_pos (by rw [size_sb]; exact hl), bl_sb]
theorem groatref01_Digit256 : ∀ n : Fin 256, groatref01_Digit.f ((n.val : Nat) : Int) = some (dig (u8 n.val)) := by decide +kernel
theorem groatref01_Digit (a : UInt8) : groatref01_Digit.f (a.toNat : Int) = some (dig a) := by
  have := groatref01_Digit256 ⟨a.toNat, u8_lt a⟩
  simp only [u8_of_nat] at this
  exact this
theorem groatref01_All_l (l : List UInt8) (hl : l.length ≤ 1000000000000) : ∀ (m : List UInt8) (k i : Nat), l.drop i = m → m.length < k → groatref01_All.l0 k (sb l) (i : Int) = some (m.all dig)
  | [], k, i, hd, hk => by
    obtain ⟨k, rfl⟩ : ∃ m, k = m + 1 := ⟨k - 1, by omega⟩
    have := dropn hd
    rw [groatref01_All.l0_eq, if_neg (by rw [size_sb]; omega)]; rfl
  | a :: m, k, i, hd, hk => by
    obtain ⟨k, rfl⟩ : ∃ m, k = m + 1 := ⟨k - 1, by omega⟩
    obtain ⟨h1, h2, h3, -⟩ := dropc hd
    have hk' : m.length < k := by simp at hk; omega
    rw [groatref01_All.l0_eq, if_pos (by rw [size_sb]; omega), bget_drop hd, Option.bind_some, groatref01_Digit, Option.bind_some, wrap_succ (by omega), groatref01_All_l l hl m k (i + 1) h2 hk', List.all_cons]
    cases hx : dig a with
    | true => rw [if_neg (by simp), Bool.true_and]
    | false => rw [if_pos (by simp)]; rfl
noncomputable def groatref01_All.c : Con := ⟨187, groatref01_All.sg, groatref01_All.rs, groatref01_All.f⟩
theorem groatref01_All.con : ConOk Tryz.prog groatref01_All.c := walked (C := groatref01_All.C) rfl (by kernel_rfl) (by kernel_rfl) (by kernel_rfl) rfl ⟨groatref01_Digit.con, trivial⟩ fun s y h => by
  obtain ⟨l, rfl⟩ := ex_sb s
  have h : groatref01_All.f (sb l) = some y := h
  unfold groatref01_All.f at h
  split at h
  · rename_i hc
    rw [size_sb] at hc
    exact ⟨l.length + 1, by rw [groatref01_All.eq]; exact (groatref01_All_l l hc l _ 0 rfl (by omega)).trans h⟩
  · cases h
/-! ### groatref15_Right -/
@[reducible] def groatref15_Right.sg : List Shp := [.v (.str)]
@[reducible] def groatref15_Right.rs : Rs := .one (.v (.bool))
@[reducible] noncomputable def groatref15_Right.code : Code := Tryz.f167.body.getD .skip
noncomputable def groatref15_Right.C : Ctx := ⟨tab, [groatref01_All.c], [], ⟨[], []⟩⟩
theorem groatref15_Right.eq (n : Nat) (a0 : ByteArray) : call groatref15_Right.C Tryz.f167 groatref15_Right.code groatref15_Right.sg groatref15_Right.rs n a0 =
  (if (↑(ByteArray.size a0) : Int) = 4 then ((groatref01_All.f a0).bind fun b0 =>
   (some (decide (b0 = true))))
  else (some false)) := by kernel_rfl
noncomputable def groatref15_Right.f : El (sgTy groatref15_Right.sg) → Option (El groatref15_Right.rs.ty) := fun x => match x with
  | a0 =>
  (if (↑(ByteArray.size a0) : Int) = 4 then ((groatref01_All.f a0).bind fun b0 =>
   (some (decide (b0 = true))))
  else (some false))
noncomputable def groatref15_Right.c : Con := ⟨167, groatref15_Right.sg, groatref15_Right.rs, groatref15_Right.f⟩
theorem groatref15_Right.con : ConOk Tryz.prog groatref15_Right.c := walked (C := groatref15_Right.C) rfl (by kernel_rfl) (by kernel_rfl) (by kernel_rfl) rfl ⟨groatref01_All.con, trivial⟩ fun a0 y h => ⟨0, (groatref15_Right.eq 0 a0).trans h⟩
theorem groatref15_Right (t : List UInt8) : groatref15_Right.f (sb t) = some (right t) := by
  simp only [groatref15_Right.f, size_sb, right]
  by_cases h : t.length = 4
  · rw [if_pos (by omega), groatref01_All t (by omega), Option.bind_some, decide_eq_true h, Bool.true_and]
    cases t.all dig <;> rfl
  · rw [if_neg (by omega), decide_eq_false h]; rfl
end Go.Proofs.YtkaihbkfobiejaaGreatDoor.Xe
