import Derived.Test.YtkaihbkfobiejaaGreatDoorNgd
import Derived.Test.YtkaihbkfobiejaaGreatDoorXgh
/- What the program's functions on sets of fields answer. -/
namespace Go.Proofs.YtkaihbkfobiejaaGreatDoor.Xe
open Go Go.RowKit Go.Proofs.YtkaihbkfobiejaaGreatDoor.Sp
set_option linter.unusedVariables false
set_option linter.unusedSimpArgs false
set_option maxRecDepth 100000
theorem u64_pow (k : Nat) (h : k ≤ 63) : IntKind.wrap .u64 (1 * 2 ^ min k 64) = ((2 ^ k : Nat) : Int) := by
  have h1 : (2 : Nat) ^ k ≤ 2 ^ 63 := Nat.pow_le_pow_right (by decide) h
  rw [IntKind.wrap_u64, Int.one_mul, Nat.min_eq_left (by omega), show ((2 : Int) ^ k) = ((2 ^ k : Nat) : Int) by simp]
  generalize (2 : Nat) ^ k = y at *
  rw [show (2 : Nat) ^ 63 = 9223372036854775808 from rfl] at h1
  omega
/-! ### fields_bit -/
@[reducible] def fields_bit.sg : List Shp := [.v (.int .i64)]
@[reducible] def fields_bit.rs : Rs := .one (.a (.pair (.int .u64) (.int .u64)))
@[reducible] noncomputable def fields_bit.code : Code := Tryz.f99.body.getD .skip
noncomputable def fields_bit.C : Ctx := ⟨tab, [], [], ⟨[], []⟩⟩
theorem fields_bit.eq (n : Nat) (a0 : Int) : call fields_bit.C Tryz.f99 fields_bit.code fields_bit.sg fields_bit.rs n a0 =
  (if a0 < 1 then (some ((0, 0)))
  else (if a0 > 128 then (some ((0, 0)))
   else (if a0 ≤ 64 then (if IntKind.wrap IntKind.i64 (64 - a0) < 0 then none
     else (some ((IntKind.wrap IntKind.u64 (1 * 2 ^ min (Int.toNat (IntKind.wrap IntKind.i64 (64 - a0))) 64), 0))))
    else (if IntKind.wrap IntKind.i64 (128 - a0) < 0 then none
     else (some ((0, IntKind.wrap IntKind.u64 (1 * 2 ^ min (Int.toNat (IntKind.wrap IntKind.i64 (128 - a0))) 64)))))))) := by kernel_rfl
noncomputable def fields_bit.f : El (sgTy fields_bit.sg) → Option (El fields_bit.rs.ty) := fun x => match x with
  | a0 =>
  (if a0 < 1 then (some ((0, 0)))
  else (if a0 > 128 then (some ((0, 0)))
   else (if a0 ≤ 64 then (if IntKind.wrap IntKind.i64 (64 - a0) < 0 then none
     else (some ((IntKind.wrap IntKind.u64 (1 * 2 ^ min (Int.toNat (IntKind.wrap IntKind.i64 (64 - a0))) 64), 0))))
    else (if IntKind.wrap IntKind.i64 (128 - a0) < 0 then none
     else (some ((0, IntKind.wrap IntKind.u64 (1 * 2 ^ min (Int.toNat (IntKind.wrap IntKind.i64 (128 - a0))) 64))))))))
noncomputable def fields_bit.c : Con := ⟨99, fields_bit.sg, fields_bit.rs, fields_bit.f⟩
theorem fields_bit.con : ConOk Tryz.prog fields_bit.c := walked (C := fields_bit.C) rfl (by kernel_rfl) (by kernel_rfl) (by kernel_rfl) rfl trivial fun a0 y h => ⟨0, (fields_bit.eq 0 a0).trans h⟩
theorem fields_bit (n : Int) : fields_bit.f n = some ((fb1 n : Int), (fb2 n : Int)) := by
  simp only [fields_bit.f, fb1, fb2]
  by_cases h1 : n < 1
  · rw [if_pos h1, if_neg (by omega), if_neg (by omega)]; rfl
  rw [if_neg h1]
  by_cases h2 : n > 128
  · rw [if_pos h2, if_neg (by omega), if_neg (by omega)]; rfl
  rw [if_neg h2]
  by_cases h3 : n ≤ 64
  · rw [if_pos h3, wrap_id (by omega) (by omega), if_neg (by omega), u64_pow _ (by omega), if_pos (by omega), if_neg (by omega)]; rfl
  · rw [if_neg h3, wrap_id (by omega) (by omega), if_neg (by omega), u64_pow _ (by omega), if_neg (by omega), if_pos (by omega)]; rfl
/-! ### fields_Set_Either -/
@[reducible] def fields_Set_Either.sg : List Shp := [.a (.pair (.int .u64) (.int .u64)), .a (.pair (.int .u64) (.int .u64))]
@[reducible] def fields_Set_Either.rs : Rs := .one (.a (.pair (.int .u64) (.int .u64)))
@[reducible] noncomputable def fields_Set_Either.code : Code := Tryz.f100.body.getD .skip
noncomputable def fields_Set_Either.C : Ctx := ⟨tab, [], [], ⟨[], []⟩⟩
theorem fields_Set_Either.eq (n : Nat) (a0 : Int) (a1 : Int) (a2 : Int) (a3 : Int) : call fields_Set_Either.C Tryz.f100 fields_Set_Either.code fields_Set_Either.sg fields_Set_Either.rs n ((a0, a1), (a2, a3)) =
  (some ((bits BinOp.or IntKind.u64 a0 a2, bits BinOp.or IntKind.u64 a1 a3))) := by kernel_rfl
noncomputable def fields_Set_Either.f : El (sgTy fields_Set_Either.sg) → Option (El fields_Set_Either.rs.ty) := fun x => match x with
  | ((a0, a1), (a2, a3)) =>
  (some ((bits BinOp.or IntKind.u64 a0 a2, bits BinOp.or IntKind.u64 a1 a3)))
noncomputable def fields_Set_Either.c : Con := ⟨100, fields_Set_Either.sg, fields_Set_Either.rs, fields_Set_Either.f⟩
theorem fields_Set_Either.con : ConOk Tryz.prog fields_Set_Either.c := walked (C := fields_Set_Either.C) rfl (by kernel_rfl) (by kernel_rfl) (by kernel_rfl) rfl trivial fun ⟨⟨a0, a1⟩, ⟨a2, a3⟩⟩ y h => ⟨0, (fields_Set_Either.eq 0 a0 a1 a2 a3).trans h⟩
/-! ### fields_Bits -/
@[reducible] def fields_Bits.sg : List Shp := [.v (.int .u64), .v (.int .u64)]
@[reducible] def fields_Bits.rs : Rs := .one (.a (.pair (.int .u64) (.int .u64)))
@[reducible] noncomputable def fields_Bits.code : Code := Tryz.f19.body.getD .skip
noncomputable def fields_Bits.C : Ctx := ⟨tab, [], [], ⟨[], []⟩⟩
theorem fields_Bits.eq (n : Nat) (a0 : Int) (a1 : Int) : call fields_Bits.C Tryz.f19 fields_Bits.code fields_Bits.sg fields_Bits.rs n (a0, a1) =
  (some ((a0, a1))) := by kernel_rfl
noncomputable def fields_Bits.f : El (sgTy fields_Bits.sg) → Option (El fields_Bits.rs.ty) := fun x => match x with
  | (a0, a1) =>
  (some ((a0, a1)))
noncomputable def fields_Bits.c : Con := ⟨19, fields_Bits.sg, fields_Bits.rs, fields_Bits.f⟩
theorem fields_Bits.con : ConOk Tryz.prog fields_Bits.c := walked (C := fields_Bits.C) rfl (by kernel_rfl) (by kernel_rfl) (by kernel_rfl) rfl trivial fun ⟨a0, a1⟩ y h => ⟨0, (fields_Bits.eq 0 a0 a1).trans h⟩
theorem fields_Bits (x : Int × Int) : fields_Bits.f x = some x := rfl
theorem fields_Set_Either (h l a b : Nat) (h1 : h < 18446744073709551616) (h2 : l < 18446744073709551616) (h3 : a < 18446744073709551616) (h4 : b < 18446744073709551616) :
    fields_Set_Either.f (((h : Int), (l : Int)), ((a : Int), (b : Int))) = some (((h ||| a : Nat) : Int), ((l ||| b : Nat) : Int)) := by
  simp only [fields_Set_Either.f]
  rw [bits_or_u64_nat _ _ h1 h3, bits_or_u64_nat _ _ h2 h4]
/-! ### fields_Set_With -/
@[reducible] def fields_Set_With.sg : List Shp := [.a (.pair (.int .u64) (.int .u64)), .v (.int .i64)]
@[reducible] def fields_Set_With.rs : Rs := .one (.a (.pair (.int .u64) (.int .u64)))
@[reducible] noncomputable def fields_Set_With.code : Code := Tryz.f56.body.getD .skip
noncomputable def fields_Set_With.C : Ctx := ⟨tab, [fields_Set_Either.c, fields_bit.c], [], ⟨[], []⟩⟩
theorem fields_Set_With.eq (n : Nat) (a0 : Int) (a1 : Int) (a2 : Int) : call fields_Set_With.C Tryz.f56 fields_Set_With.code fields_Set_With.sg fields_Set_With.rs n ((a0, a1), a2) =
  ((fields_bit.f a2).bind fun b0 =>
  ((fields_Set_Either.f ((a0, a1), b0)).bind fun b1 =>
  (some b1))) := by kernel_rfl
noncomputable def fields_Set_With.f : El (sgTy fields_Set_With.sg) → Option (El fields_Set_With.rs.ty) := fun x => match x with
  | ((a0, a1), a2) =>
  ((fields_bit.f a2).bind fun b0 =>
  ((fields_Set_Either.f ((a0, a1), b0)).bind fun b1 =>
  (some b1)))
noncomputable def fields_Set_With.c : Con := ⟨56, fields_Set_With.sg, fields_Set_With.rs, fields_Set_With.f⟩
theorem fields_Set_With.con : ConOk Tryz.prog fields_Set_With.c := walked (C := fields_Set_With.C) rfl (by kernel_rfl) (by kernel_rfl) (by kernel_rfl) rfl ⟨fields_Set_Either.con, fields_bit.con, trivial⟩ fun ⟨⟨a0, a1⟩, a2⟩ y h => ⟨0, (fields_Set_With.eq 0 a0 a1 a2).trans h⟩
theorem fields_Set_With (h l : Nat) (h1 : h < 18446744073709551616) (h2 : l < 18446744073709551616) (n : Int) : fields_Set_With.f (((h : Int), (l : Int)), n) = some (((h ||| fb1 n : Nat) : Int), ((l ||| fb2 n : Nat) : Int)) := by
  simp only [fields_Set_With.f]
  rw [fields_bit, Option.bind_some, fields_Set_Either h l _ _ h1 h2 (fb1_lt n) (fb2_lt n), Option.bind_some]
/-! ### fields_Of -/
@[reducible] def fields_Of.sg : List Shp := [.v (.sl (.int .i64))]
@[reducible] def fields_Of.rs : Rs := .one (.a (.pair (.int .u64) (.int .u64)))
@[reducible] noncomputable def fields_Of.code : Code := Tryz.f103.body.getD .skip
noncomputable def fields_Of.C : Ctx := ⟨tab, [fields_Set_With.c], [], ⟨[(3, [2, 3, 6, 7, 8], 2)], []⟩⟩
noncomputable def fields_Of.l0 (n : Nat) (v0 : List Int) (v1 : Int) (v2 : Int) (v3 : Int) (v4 : Int) (v5 : Int) (v6 : Int) : Option ((Int × Int)) := run fields_Of.C (finOf fields_Of.C Tryz.f103 fields_Of.rs) n (todoAt 3 fields_Of.code) ⟨[.junk, .junk, .ptr 0 0, .ptr 1 0, .junk, .junk, .sl none (.int .i64) v0, .int .i64 v1, .int .i64 v2, .junk, .junk, .junk, .junk, .junk, .junk, .junk, .junk], [[.int .u64 v3, .int .u64 v4], [.int .u64 v5, .int .u64 v6]], []⟩
-- the loop at region 3
theorem fields_Of.l0_eq (n : Nat) (v0 : List Int) (v1 : Int) (v2 : Int) (v3 : Int) (v4 : Int) (v5 : Int) (v6 : Int) : fields_Of.l0 (n + 1) v0 v1 v2 v3 v4 v5 v6 =
  (if v2 < v1 then ((lget v0 v2).bind fun b0 =>
   ((fields_Set_With.f ((v5, v6), b0)).bind fun b1 =>
   (fields_Of.l0 n v0 v1 (IntKind.wrap IntKind.i64 (v2 + 1)) v3 v4 (Prod.fst b1) (Prod.snd b1))))
  else (some ((v5, v6)))) := by kernel_rfl
theorem fields_Of.eq (n : Nat) (a0 : List Int) : call fields_Of.C Tryz.f103 fields_Of.code fields_Of.sg fields_Of.rs n a0 =
  (fields_Of.l0 n a0 ((↑(List.length a0) : Int)) 0 0 0 0 0) := by kernel_rfl
def fields_Of.f (l : List Int) : Option (Int × Int) := if l.length ≤ 140737488351232 then some (((withAll l (0, 0)).1 : Int), ((withAll l (0, 0)).2 : Int)) else none
theorem fields_Of (l : List Int) (hl : l.length ≤ 140737488351232) : fields_Of.f l = some (((withAll l (0, 0)).1 : Int), ((withAll l (0, 0)).2 : Int)) := if_pos hl
theorem fields_Of_l (l : List Int) (hl : l.length ≤ 140737488351232) (a b : Int) : ∀ (m : List Int) (k i h g : Nat), l.drop i = m → i + m.length = l.length → h < 18446744073709551616 → g < 18446744073709551616 → m.length < k →
    fields_Of.l0 k l (l.length : Int) (i : Int) a b (h : Int) (g : Int) = some (((withAll m (h, g)).1 : Int), ((withAll m (h, g)).2 : Int))
  | [], k, i, h, g, hd, hi, h1, h2, hk => by
    obtain ⟨k, rfl⟩ : ∃ m, k = m + 1 := ⟨k - 1, by omega⟩
    have hi' : i = l.length := by simpa using hi
    rw [fields_Of.l0_eq, if_neg (by omega)]; rfl
  | n :: m, k, i, h, g, hd, hi, h1, h2, hk => by
    obtain ⟨k, rfl⟩ : ∃ m, k = m + 1 := ⟨k - 1, by omega⟩
    have hi' : i + (m.length + 1) = l.length := by simpa using hi
    have hk' : m.length < k := by simp at hk; omega
    have hlt : i < l.length := by omega
    have hd' := hd
    rw [List.drop_eq_getElem_cons hlt] at hd'
    obtain ⟨e1, e2⟩ := List.cons.inj hd'
    rw [fields_Of.l0_eq, if_pos (by omega), lget_nat _ _ hlt, Option.bind_some, fields_Set_With h g h1 h2, Option.bind_some, wrap_succ (by omega), e1, withAll]
    exact fields_Of_l l hl a b m k (i + 1) _ _ e2 (by omega) (Nat.or_lt_two_pow (n := 64) h1 (fb1_lt n)) (Nat.or_lt_two_pow (n := 64) h2 (fb2_lt n)) hk'
noncomputable def fields_Of.c : Con := ⟨103, fields_Of.sg, fields_Of.rs, fields_Of.f⟩
theorem fields_Of.con : ConOk Tryz.prog fields_Of.c := walked (C := fields_Of.C) rfl (by kernel_rfl) (by kernel_rfl) (by kernel_rfl) rfl ⟨fields_Set_With.con, trivial⟩ fun l y h => by
  have h : fields_Of.f l = some y := h
  unfold fields_Of.f at h
  split at h
  · rename_i hc
    refine ⟨l.length + 1, ?_⟩
    rw [fields_Of.eq]
    exact (fields_Of_l l hc 0 0 l _ 0 0 0 rfl (by simp) (by decide) (by decide) (by omega)).trans h
  · cases h
end Go.Proofs.YtkaihbkfobiejaaGreatDoor.Xe

/- What the program's functions on sets of fields answer: has, halves. -/
namespace Go.Proofs.YtkaihbkfobiejaaGreatDoor.Xe
open Go Go.RowKit Go.Proofs.YtkaihbkfobiejaaGreatDoor.Sp
set_option linter.unusedVariables false
set_option linter.unusedSimpArgs false
set_option maxRecDepth 100000
/-! ### fields_Set_Both -/
@[reducible] def fields_Set_Both.sg : List Shp := [.a (.pair (.int .u64) (.int .u64)), .a (.pair (.int .u64) (.int .u64))]
@[reducible] def fields_Set_Both.rs : Rs := .one (.a (.pair (.int .u64) (.int .u64)))
@[reducible] noncomputable def fields_Set_Both.code : Code := Tryz.f22.body.getD .skip
noncomputable def fields_Set_Both.C : Ctx := ⟨tab, [], [], ⟨[], []⟩⟩
theorem fields_Set_Both.eq (n : Nat) (a0 : Int) (a1 : Int) (a2 : Int) (a3 : Int) : call fields_Set_Both.C Tryz.f22 fields_Set_Both.code fields_Set_Both.sg fields_Set_Both.rs n ((a0, a1), (a2, a3)) =
  (some ((bits BinOp.and IntKind.u64 a0 a2, bits BinOp.and IntKind.u64 a1 a3))) := by kernel_rfl
noncomputable def fields_Set_Both.f : El (sgTy fields_Set_Both.sg) → Option (El fields_Set_Both.rs.ty) := fun x => match x with
  | ((a0, a1), (a2, a3)) =>
  (some ((bits BinOp.and IntKind.u64 a0 a2, bits BinOp.and IntKind.u64 a1 a3)))
noncomputable def fields_Set_Both.c : Con := ⟨22, fields_Set_Both.sg, fields_Set_Both.rs, fields_Set_Both.f⟩
theorem fields_Set_Both.con : ConOk Tryz.prog fields_Set_Both.c := walked (C := fields_Set_Both.C) rfl (by kernel_rfl) (by kernel_rfl) (by kernel_rfl) rfl trivial fun ⟨⟨a0, a1⟩, ⟨a2, a3⟩⟩ y h => ⟨0, (fields_Set_Both.eq 0 a0 a1 a2 a3).trans h⟩
/-! ### fields_Set_Halves -/
@[reducible] def fields_Set_Halves.sg : List Shp := [.a (.pair (.int .u64) (.int .u64))]
@[reducible] def fields_Set_Halves.rs : Rs := .tup [.v (.int .u64), .v (.int .u64)]
@[reducible] noncomputable def fields_Set_Halves.code : Code := Tryz.f83.body.getD .skip
noncomputable def fields_Set_Halves.C : Ctx := ⟨tab, [], [], ⟨[], []⟩⟩
theorem fields_Set_Halves.eq (n : Nat) (a0 : Int) (a1 : Int) : call fields_Set_Halves.C Tryz.f83 fields_Set_Halves.code fields_Set_Halves.sg fields_Set_Halves.rs n (a0, a1) =
  (some ((a0, a1))) := by kernel_rfl
noncomputable def fields_Set_Halves.f : El (sgTy fields_Set_Halves.sg) → Option (El fields_Set_Halves.rs.ty) := fun x => match x with
  | (a0, a1) =>
  (some ((a0, a1)))
noncomputable def fields_Set_Halves.c : Con := ⟨83, fields_Set_Halves.sg, fields_Set_Halves.rs, fields_Set_Halves.f⟩
theorem fields_Set_Halves.con : ConOk Tryz.prog fields_Set_Halves.c := walked (C := fields_Set_Halves.C) rfl (by kernel_rfl) (by kernel_rfl) (by kernel_rfl) rfl trivial fun ⟨a0, a1⟩ y h => ⟨0, (fields_Set_Halves.eq 0 a0 a1).trans h⟩
theorem fields_Set_Halves (x : Int × Int) : fields_Set_Halves.f x = some x := rfl
theorem fields_Set_Both (h l a b : Nat) (h1 : h < 18446744073709551616) (h2 : l < 18446744073709551616) (h3 : a < 18446744073709551616) (h4 : b < 18446744073709551616) :
    fields_Set_Both.f (((h : Int), (l : Int)), ((a : Int), (b : Int))) = some (((h &&& a : Nat) : Int), ((l &&& b : Nat) : Int)) := by
  simp only [fields_Set_Both.f]
  rw [bits_and_u64_nat _ _ h1 h3, bits_and_u64_nat _ _ h2 h4]
theorem and_zero (h k : Nat) : ((h &&& 2 ^ k : Nat) : Int) = 0 ↔ h.testBit k = false := by
  rw [and_pow]
  cases h.testBit k
  · simp
  · have := Nat.two_pow_pos k
    rw [Bool.toNat_true, Nat.one_mul]
    exact ⟨fun e => absurd (Int.ofNat_inj.1 e : 2 ^ k = 0) (Nat.ne_of_gt this), fun e => by cases e⟩
/-! ### fields_Set_Has -/
@[reducible] def fields_Set_Has.sg : List Shp := [.a (.pair (.int .u64) (.int .u64)), .v (.int .i64)]
@[reducible] def fields_Set_Has.rs : Rs := .one (.v (.bool))
@[reducible] noncomputable def fields_Set_Has.code : Code := Tryz.f55.body.getD .skip
noncomputable def fields_Set_Has.C : Ctx := ⟨tab, [fields_bit.c, fields_Set_Both.c], [], ⟨[], []⟩⟩
theorem fields_Set_Has.eq (n : Nat) (a0 : Int) (a1 : Int) (a2 : Int) : call fields_Set_Has.C Tryz.f55 fields_Set_Has.code fields_Set_Has.sg fields_Set_Has.rs n ((a0, a1), a2) =
  ((fields_bit.f a2).bind fun b0 =>
  ((fields_Set_Both.f ((a0, a1), b0)).bind fun b1 =>
  (some (decide ¬(Prod.fst b1 = 0 ∧ Prod.snd b1 = 0 ∧ True))))) := by kernel_rfl
noncomputable def fields_Set_Has.f : El (sgTy fields_Set_Has.sg) → Option (El fields_Set_Has.rs.ty) := fun x => match x with
  | ((a0, a1), a2) =>
  ((fields_bit.f a2).bind fun b0 =>
  ((fields_Set_Both.f ((a0, a1), b0)).bind fun b1 =>
  (some (decide ¬(Prod.fst b1 = 0 ∧ Prod.snd b1 = 0 ∧ True)))))
noncomputable def fields_Set_Has.c : Con := ⟨55, fields_Set_Has.sg, fields_Set_Has.rs, fields_Set_Has.f⟩
theorem fields_Set_Has.con : ConOk Tryz.prog fields_Set_Has.c := walked (C := fields_Set_Has.C) rfl (by kernel_rfl) (by kernel_rfl) (by kernel_rfl) rfl ⟨fields_bit.con, fields_Set_Both.con, trivial⟩ fun ⟨⟨a0, a1⟩, a2⟩ y h => ⟨0, (fields_Set_Has.eq 0 a0 a1 a2).trans h⟩
theorem fields_Set_Has (h l : Nat) (h1 : h < 18446744073709551616) (h2 : l < 18446744073709551616) (n : Int) : fields_Set_Has.f (((h : Int), (l : Int)), n) = some (fhas h l n) := by
  simp only [fields_Set_Has.f]
  rw [fields_bit, Option.bind_some, fields_Set_Both h l _ _ h1 h2 (fb1_lt n) (fb2_lt n), Option.bind_some]
  congr 1
  dsimp only
  unfold fb1 fb2 fhas
  by_cases c1 : n < 1 ∨ 128 < n
  · rw [if_pos c1, if_neg (by omega), if_neg (by omega)]; simp
  rw [if_neg c1]
  by_cases c2 : n ≤ 64
  · rw [if_pos c2, if_pos (by omega), if_neg (by omega), Nat.and_zero]
    have := and_zero h (64 - n).toNat
    cases hb : h.testBit (64 - n).toNat
    · have := this.2 hb; simp [this]
    · have : ¬ ((h &&& 2 ^ (64 - n).toNat : Nat) : Int) = 0 := fun e => by rw [this.1 e] at hb; cases hb
      exact decide_eq_true fun e => this e.1
  · rw [if_neg c2, if_neg (by omega), if_pos (by omega), Nat.and_zero]
    have := and_zero l (128 - n).toNat
    cases hb : l.testBit (128 - n).toNat
    · have := this.2 hb; simp [this]
    · have : ¬ ((l &&& 2 ^ (128 - n).toNat : Nat) : Int) = 0 := fun e => by rw [this.1 e] at hb; cases hb
      exact decide_eq_true fun e => this e.2.1
end Go.Proofs.YtkaihbkfobiejaaGreatDoor.Xe
