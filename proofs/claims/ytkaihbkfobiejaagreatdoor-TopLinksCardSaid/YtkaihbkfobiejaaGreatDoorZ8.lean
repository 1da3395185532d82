import Derived.Test.YtkaihbkfobiejaaGreatDoorZ7
import Derived.Test.YtkaihbkfobiejaaGreatDoorZ6
import Derived.Laws.RangeString
import Derived.Laws.RangeAny
namespace Go.Proofs.YtkaihbkfobiejaaGreatDoor.Xe
open Go Go.RowKit Go.Proofs.YtkaihbkfobiejaaGreatDoor.Sp
set_option linter.unusedVariables false
set_option linter.unusedSimpArgs false
set_option maxRecDepth 100000
theorem u64_pow (k : Nat) (h : k ≤ 63) : IntKind.wrap .u64 (1 * 2 ^ min k 64) = ((2 ^ k : Nat) : Int) := by
 have h1 : (2 : Nat) ^ k ≤ 2 ^ 63 := Nat.pow_le_pow_right (by decide) h
 rw [IntKind.wrap_u64, Int.one_mul, Nat.min_eq_left (by omega), show ((2 : Int) ^ k) = ((2 ^ k : Nat) : Int) by simp]
 generalize (2 : Nat) ^ k = y at *
 rw [show (2 : Nat) ^ 63 = 9223372036854775808 from rfl] at h1
 omega
@[reducible] def fields_bit.sg : List Shp := [.v (.int .i64)]
@[reducible] def fields_bit.rs : Rs := .one (.a (.pair (.int .u64) (.int .u64)))
@[reducible] noncomputable def fields_bit.code : Code := Tryz.f99.body.getD .skip
noncomputable def fields_bit.C : Ctx := ⟨tab, [], [], ⟨[], []⟩⟩
theorem fields_bit.eq (n : Nat) (a0 : Int) : call fields_bit.C Tryz.f99 fields_bit.code fields_bit.sg fields_bit.rs n a0 =
 (if a0 < 1 then (some ((0, 0)))
 else (if a0 > 128 then (some ((0, 0)))
 else (if a0 ≤ 64 then (if IntKind.wrap .i64 (64 - a0) < 0 then none
 else (some ((IntKind.wrap .u64 (1 * 2 ^ min (Int.toNat (IntKind.wrap .i64 (64 - a0))) 64), 0))))
 else (if IntKind.wrap .i64 (128 - a0) < 0 then none
 else (some ((0, IntKind.wrap .u64 (1 * 2 ^ min (Int.toNat (IntKind.wrap .i64 (128 - a0))) 64)))))))) := by kernel_rfl
noncomputable def fields_bit.f : El (sgTy fields_bit.sg) → Option (El fields_bit.rs.ty) := fun x => match x with
 | a0 =>
 (if a0 < 1 then (some ((0, 0)))
 else (if a0 > 128 then (some ((0, 0)))
  else (if a0 ≤ 64 then (if IntKind.wrap IntKind.i64 (64 - a0) < 0 then none
   else (some ((IntKind.wrap IntKind.u64 (1 * 2 ^ min (Int.toNat (IntKind.wrap IntKind.i64 (64 - a0))) 64), 0))))
  else (if IntKind.wrap IntKind.i64 (128 - a0) < 0 then none
   else (some ((0, IntKind.wrap IntKind.u64 (1 * 2 ^ min (Int.toNat (IntKind.wrap IntKind.i64 (128 - a0))) 64))))))))
noncomputable def fields_bit.c : Con := ⟨99, fields_bit.sg, fields_bit.rs, fields_bit.f⟩
theorem fields_bit.con : ConOk Tryz.prog fields_bit.c := walked (C := fields_bit.C) rfl (by kernel_rfl) (by kernel_rfl) (by kernel_rfl) rfl trivial fun a0 y h => ⟨0, (fields_bit.eq 0 a0).trans h⟩
theorem fields_bit (n : Int) : fields_bit.f n = some ((fb1 n : Int), (fb2 n : Int)) := by
 simp only [fields_bit.f, fb1, fb2]
 by_cases h1 : n < 1
 ·rw [if_pos h1, if_neg (by omega), if_neg (by omega)]; rfl
 rw [if_neg h1]
 by_cases h2 : n > 128
 ·rw [if_pos h2, if_neg (by omega), if_neg (by omega)]; rfl
 rw [if_neg h2]
 by_cases h3 : n ≤ 64
 ·rw [if_pos h3, wrap_id (by omega) (by omega), if_neg (by omega), u64_pow _ (by omega), if_pos (by omega), if_neg (by omega)]; rfl
 ·rw [if_neg h3, wrap_id (by omega) (by omega), if_neg (by omega), u64_pow _ (by omega), if_neg (by omega), if_pos (by omega)]; rfl
@[reducible] def fields_Set_Either.sg : List Shp := [.a (.pair (.int .u64) (.int .u64)), .a (.pair (.int .u64) (.int .u64))]
@[reducible] def fields_Set_Either.rs : Rs := .one (.a (.pair (.int .u64) (.int .u64)))
@[reducible] noncomputable def fields_Set_Either.code : Code := Tryz.f100.body.getD .skip
noncomputable def fields_Set_Either.C : Ctx := ⟨tab, [], [], ⟨[], []⟩⟩
theorem fields_Set_Either.eq (n : Nat) (a0 a1 a2 a3 : Int) : call fields_Set_Either.C Tryz.f100 fields_Set_Either.code fields_Set_Either.sg fields_Set_Either.rs n ((a0, a1), (a2, a3)) =
 (some ((bits BinOp.or IntKind.u64 a0 a2, bits BinOp.or IntKind.u64 a1 a3))) := by kernel_rfl
noncomputable def fields_Set_Either.f : El (sgTy fields_Set_Either.sg) → Option (El fields_Set_Either.rs.ty) := fun x => match x with
 | ((a0, a1), (a2, a3)) =>
 (some ((bits BinOp.or IntKind.u64 a0 a2, bits BinOp.or IntKind.u64 a1 a3)))
noncomputable def fields_Set_Either.c : Con := ⟨100, fields_Set_Either.sg, fields_Set_Either.rs, fields_Set_Either.f⟩
theorem fields_Set_Either.con : ConOk Tryz.prog fields_Set_Either.c := walked (C := fields_Set_Either.C) rfl (by kernel_rfl) (by kernel_rfl) (by kernel_rfl) rfl trivial fun ⟨⟨a0, a1⟩, ⟨a2, a3⟩⟩ y h => ⟨0, (fields_Set_Either.eq 0 a0 a1 a2 a3).trans h⟩
@[reducible] def fields_Bits.sg : List Shp := [.v (.int .u64), .v (.int .u64)]
@[reducible] def fields_Bits.rs : Rs := .one (.a (.pair (.int .u64) (.int .u64)))
@[reducible] noncomputable def fields_Bits.code : Code := Tryz.f19.body.getD .skip
noncomputable def fields_Bits.C : Ctx := ⟨tab, [], [], ⟨[], []⟩⟩
theorem fields_Bits.eq (n : Nat) (a0 a1 : Int) : call fields_Bits.C Tryz.f19 fields_Bits.code fields_Bits.sg fields_Bits.rs n (a0, a1) =
 (some ((a0, a1))) := by kernel_rfl
noncomputable def fields_Bits.f : El (sgTy fields_Bits.sg) → Option (El fields_Bits.rs.ty) := fun x => match x with
 | (a0, a1) =>
 (some ((a0, a1)))
noncomputable def fields_Bits.c : Con := ⟨19, fields_Bits.sg, fields_Bits.rs, fields_Bits.f⟩
theorem fields_Bits.con : ConOk Tryz.prog fields_Bits.c := walked (C := fields_Bits.C) rfl (by kernel_rfl) (by kernel_rfl) (by kernel_rfl) rfl trivial fun ⟨a0, a1⟩ y h => ⟨0, (fields_Bits.eq 0 a0 a1).trans h⟩
theorem fields_Bits (x : Int × Int) : fields_Bits.f x = some x := rfl
theorem fields_Set_Either (h l a b : Nat) (h1 : h < 18446744073709551616) (h2 : l < 18446744073709551616) (h3 : a < 18446744073709551616) (h4 : b < 18446744073709551616) :
  fields_Set_Either.f (((h : Int), (l : Int)), ((a : Int), (b : Int))) = some (((h ||| a : Nat) : Int), ((l ||| b : Nat) : Int)) := by
 simp only [fields_Set_Either.f]
 rw [bits_or_u64_nat _ _ h1 h3, bits_or_u64_nat _ _ h2 h4]
@[reducible] def fields_Set_With.sg : List Shp := [.a (.pair (.int .u64) (.int .u64)), .v (.int .i64)]
@[reducible] def fields_Set_With.rs : Rs := .one (.a (.pair (.int .u64) (.int .u64)))
@[reducible] noncomputable def fields_Set_With.code : Code := Tryz.f56.body.getD .skip
noncomputable def fields_Set_With.C : Ctx := ⟨tab, [fields_Set_Either.c, fields_bit.c], [], ⟨[], []⟩⟩
theorem fields_Set_With.eq (n : Nat) (a0 a1 a2 : Int) : call fields_Set_With.C Tryz.f56 fields_Set_With.code fields_Set_With.sg fields_Set_With.rs n ((a0, a1), a2) =
 ((fields_bit.f a2).bind fun b0 =>
 ((fields_Set_Either.f ((a0, a1), b0)).bind fun b1 =>
 (some b1))) := by kernel_rfl
noncomputable def fields_Set_With.f : El (sgTy fields_Set_With.sg) → Option (El fields_Set_With.rs.ty) := fun x => match x with
 | ((a0, a1), a2) =>
 ((fields_bit.f a2).bind fun b0 =>
 ((fields_Set_Either.f ((a0, a1), b0)).bind fun b1 =>
 (some b1)))
noncomputable def fields_Set_With.c : Con := ⟨56, fields_Set_With.sg, fields_Set_With.rs, fields_Set_With.f⟩
theorem fields_Set_With.con : ConOk Tryz.prog fields_Set_With.c := walked (C := fields_Set_With.C) rfl (by kernel_rfl) (by kernel_rfl) (by kernel_rfl) rfl ⟨fields_Set_Either.con, fields_bit.con, trivial⟩ fun ⟨⟨a0, a1⟩, a2⟩ y h => ⟨0, (fields_Set_With.eq 0 a0 a1 a2).trans h⟩
theorem fields_Set_With (h l : Nat) (h1 : h < 18446744073709551616) (h2 : l < 18446744073709551616) (n : Int) : fields_Set_With.f (((h : Int), (l : Int)), n) = some (((h ||| fb1 n : Nat) : Int), ((l ||| fb2 n : Nat) : Int)) := by
 simp only [fields_Set_With.f]
 rw [fields_bit, Option.bind_some, fields_Set_Either h l _ _ h1 h2 (fb1_lt n) (fb2_lt n), Option.bind_some]
@[reducible] def fields_Of.sg : List Shp := [.v (.sl (.int .i64))]
@[reducible] def fields_Of.rs : Rs := .one (.a (.pair (.int .u64) (.int .u64)))
@[reducible] noncomputable def fields_Of.code : Code := Tryz.f103.body.getD .skip
noncomputable def fields_Of.C : Ctx := ⟨tab, [fields_Set_With.c], [], ⟨[(3, [2, 3, 6, 7, 8], 2)], []⟩⟩
noncomputable def fields_Of.l0 (n : Nat) (v0 : List Int) (v1 v2 v3 v4 v5 v6 : Int) : Option ((Int × Int)) := run fields_Of.C (finOf fields_Of.C Tryz.f103 fields_Of.rs) n (todoAt 3 fields_Of.code) ⟨zJ :: zJ :: .ptr 0 0 :: .ptr 1 0 :: zJ :: zJ :: .sl none (.int .i64) v0 :: .int .i64 v1 :: .int .i64 v2 :: zK [], [[.int .u64 v3, .int .u64 v4], [.int .u64 v5, .int .u64 v6]], []⟩
theorem fields_Of.l0_eq n v0 v1 v2 v3 v4 v5 v6 : fields_Of.l0 (n + 1) v0 v1 v2 v3 v4 v5 v6 =
 (if v2 < v1 then ((lget v0 v2).bind fun b0 =>
 ((fields_Set_With.f ((v5, v6), b0)).bind fun b1 =>
 (fields_Of.l0 n v0 v1 (IntKind.wrap .i64 (v2 + 1)) v3 v4 b1.1 b1.2)))
 else (some ((v5, v6)))) := by kernel_rfl
theorem fields_Of.eq (n : Nat) (a0 : List Int) : call fields_Of.C Tryz.f103 fields_Of.code fields_Of.sg fields_Of.rs n a0 =
 (fields_Of.l0 n a0 (a0.length : Int) 0 0 0 0 0) := by kernel_rfl
def fields_Of.f (l : List Int) : Option (Int × Int) := if l.length ≤ 140737488351232 then some (((withAll l (0, 0)).1 : Int), ((withAll l (0, 0)).2 : Int)) else none
theorem fields_Of (l : List Int) (hl : l.length ≤ 140737488351232) : fields_Of.f l = some (((withAll l (0, 0)).1 : Int), ((withAll l (0, 0)).2 : Int)) := if_pos hl
theorem fields_Of_l (l : List Int) (hl : l.length ≤ 140737488351232) (a b : Int) : ∀ (m : List Int) (k i h g : Nat), l.drop i = m → i + m.length = l.length → h < 18446744073709551616 → g < 18446744073709551616 → m.length < k →
  fields_Of.l0 k l (l.length : Int) (i : Int) a b (h : Int) (g : Int) = some (((withAll m (h, g)).1 : Int), ((withAll m (h, g)).2 : Int))
 | [], k, i, h, g, hd, hi, h1, h2, hk => by
  obtain ⟨k, rfl⟩ : ∃ m, k = m + 1 := ⟨k - 1, by omega⟩
  have hi' : i = l.length := by simpa using hi
  rw [fields_Of.l0_eq, if_neg (by omega)]; rfl
 | n :: m, k, i, h, g, hd, hi, h1, h2, hk => by
  obtain ⟨k, rfl⟩ : ∃ m, k = m + 1 := ⟨k - 1, by omega⟩
  have hi' : i + (m.length + 1) = l.length := by simpa using hi
  have hk' : m.length < k := by simp at hk; omega
  have hlt : i < l.length := by omega
  have hd' := hd
  rw [List.drop_eq_getElem_cons hlt] at hd'
  obtain ⟨e1, e2⟩ := List.cons.inj hd'
  rw [fields_Of.l0_eq, if_pos (by omega), lget_nat _ _ hlt, Option.bind_some, fields_Set_With h g h1 h2, Option.bind_some, wrap_succ (by omega), e1, withAll]
  exact fields_Of_l l hl a b m k (i + 1) _ _ e2 (by omega) (Nat.or_lt_two_pow (n := 64) h1 (fb1_lt n)) (Nat.or_lt_two_pow (n := 64) h2 (fb2_lt n)) hk'
noncomputable def fields_Of.c : Con := ⟨103, fields_Of.sg, fields_Of.rs, fields_Of.f⟩
theorem fields_Of.con : ConOk Tryz.prog fields_Of.c := walked (C := fields_Of.C) rfl (by kernel_rfl) (by kernel_rfl) (by kernel_rfl) rfl ⟨fields_Set_With.con, trivial⟩ fun l y h => by
 have h : fields_Of.f l = some y := h
 unfold fields_Of.f at h
 split at h
 ·rename_i hc
  refine ⟨l.length + 1, ?_⟩
  rw [fields_Of.eq]
  exact (fields_Of_l l hc 0 0 l _ 0 0 0 rfl (by simp) (by decide) (by decide) (by omega)).trans h
 ·cases h
@[reducible] def fields_Set_Both.sg : List Shp := [.a (.pair (.int .u64) (.int .u64)), .a (.pair (.int .u64) (.int .u64))]
@[reducible] def fields_Set_Both.rs : Rs := .one (.a (.pair (.int .u64) (.int .u64)))
@[reducible] noncomputable def fields_Set_Both.code : Code := Tryz.f22.body.getD .skip
noncomputable def fields_Set_Both.C : Ctx := ⟨tab, [], [], ⟨[], []⟩⟩
theorem fields_Set_Both.eq (n : Nat) (a0 a1 a2 a3 : Int) : call fields_Set_Both.C Tryz.f22 fields_Set_Both.code fields_Set_Both.sg fields_Set_Both.rs n ((a0, a1), (a2, a3)) =
 (some ((bits BinOp.and IntKind.u64 a0 a2, bits BinOp.and IntKind.u64 a1 a3))) := by kernel_rfl
noncomputable def fields_Set_Both.f : El (sgTy fields_Set_Both.sg) → Option (El fields_Set_Both.rs.ty) := fun x => match x with
 | ((a0, a1), (a2, a3)) =>
 (some ((bits BinOp.and IntKind.u64 a0 a2, bits BinOp.and IntKind.u64 a1 a3)))
noncomputable def fields_Set_Both.c : Con := ⟨22, fields_Set_Both.sg, fields_Set_Both.rs, fields_Set_Both.f⟩
theorem fields_Set_Both.con : ConOk Tryz.prog fields_Set_Both.c := walked (C := fields_Set_Both.C) rfl (by kernel_rfl) (by kernel_rfl) (by kernel_rfl) rfl trivial fun ⟨⟨a0, a1⟩, ⟨a2, a3⟩⟩ y h => ⟨0, (fields_Set_Both.eq 0 a0 a1 a2 a3).trans h⟩
@[reducible] def fields_Set_Halves.sg : List Shp := [.a (.pair (.int .u64) (.int .u64))]
@[reducible] def fields_Set_Halves.rs : Rs := .tup [.v (.int .u64), .v (.int .u64)]
@[reducible] noncomputable def fields_Set_Halves.code : Code := Tryz.f83.body.getD .skip
noncomputable def fields_Set_Halves.C : Ctx := ⟨tab, [], [], ⟨[], []⟩⟩
theorem fields_Set_Halves.eq (n : Nat) (a0 a1 : Int) : call fields_Set_Halves.C Tryz.f83 fields_Set_Halves.code fields_Set_Halves.sg fields_Set_Halves.rs n (a0, a1) =
 (some ((a0, a1))) := by kernel_rfl
noncomputable def fields_Set_Halves.f : El (sgTy fields_Set_Halves.sg) → Option (El fields_Set_Halves.rs.ty) := fun x => match x with
 | (a0, a1) =>
 (some ((a0, a1)))
noncomputable def fields_Set_Halves.c : Con := ⟨83, fields_Set_Halves.sg, fields_Set_Halves.rs, fields_Set_Halves.f⟩
theorem fields_Set_Halves.con : ConOk Tryz.prog fields_Set_Halves.c := walked (C := fields_Set_Halves.C) rfl (by kernel_rfl) (by kernel_rfl) (by kernel_rfl) rfl trivial fun ⟨a0, a1⟩ y h => ⟨0, (fields_Set_Halves.eq 0 a0 a1).trans h⟩
theorem fields_Set_Halves (x : Int × Int) : fields_Set_Halves.f x = some x := rfl
theorem fields_Set_Both (h l a b : Nat) (h1 : h < 18446744073709551616) (h2 : l < 18446744073709551616) (h3 : a < 18446744073709551616) (h4 : b < 18446744073709551616) :
  fields_Set_Both.f (((h : Int), (l : Int)), ((a : Int), (b : Int))) = some (((h &&& a : Nat) : Int), ((l &&& b : Nat) : Int)) := by
 simp only [fields_Set_Both.f]
 rw [bits_and_u64_nat _ _ h1 h3, bits_and_u64_nat _ _ h2 h4]
theorem and_zero (h k : Nat) : ((h &&& 2 ^ k : Nat) : Int) = 0 ↔ h.testBit k = false := by
 rw [and_pow]
 cases h.testBit k
 ·simp
 ·have := Nat.two_pow_pos k
  rw [Bool.toNat_true, Nat.one_mul]
  exact ⟨fun e => absurd (Int.ofNat_inj.1 e : 2 ^ k = 0) (Nat.ne_of_gt this), fun e => by cases e⟩
@[reducible] def fields_Set_Has.sg : List Shp := [.a (.pair (.int .u64) (.int .u64)), .v (.int .i64)]
@[reducible] def fields_Set_Has.rs : Rs := .one (.v (.bool))
@[reducible] noncomputable def fields_Set_Has.code : Code := Tryz.f55.body.getD .skip
noncomputable def fields_Set_Has.C : Ctx := ⟨tab, [fields_bit.c, fields_Set_Both.c], [], ⟨[], []⟩⟩
theorem fields_Set_Has.eq (n : Nat) (a0 a1 a2 : Int) : call fields_Set_Has.C Tryz.f55 fields_Set_Has.code fields_Set_Has.sg fields_Set_Has.rs n ((a0, a1), a2) =
 ((fields_bit.f a2).bind fun b0 =>
 ((fields_Set_Both.f ((a0, a1), b0)).bind fun b1 =>
 (some (decide ¬(b1.1 = 0 ∧ b1.2 = 0 ∧ True))))) := by kernel_rfl
noncomputable def fields_Set_Has.f : El (sgTy fields_Set_Has.sg) → Option (El fields_Set_Has.rs.ty) := fun x => match x with
 | ((a0, a1), a2) =>
 ((fields_bit.f a2).bind fun b0 =>
 ((fields_Set_Both.f ((a0, a1), b0)).bind fun b1 =>
 (some (decide ¬(Prod.fst b1 = 0 ∧ Prod.snd b1 = 0 ∧ True)))))
noncomputable def fields_Set_Has.c : Con := ⟨55, fields_Set_Has.sg, fields_Set_Has.rs, fields_Set_Has.f⟩
theorem fields_Set_Has.con : ConOk Tryz.prog fields_Set_Has.c := walked (C := fields_Set_Has.C) rfl (by kernel_rfl) (by kernel_rfl) (by kernel_rfl) rfl ⟨fields_bit.con, fields_Set_Both.con, trivial⟩ fun ⟨⟨a0, a1⟩, a2⟩ y h => ⟨0, (fields_Set_Has.eq 0 a0 a1 a2).trans h⟩
theorem fields_Set_Has (h l : Nat) (h1 : h < 18446744073709551616) (h2 : l < 18446744073709551616) (n : Int) : fields_Set_Has.f (((h : Int), (l : Int)), n) = some (fhas h l n) := by
 simp only [fields_Set_Has.f]
 rw [fields_bit, Option.bind_some, fields_Set_Both h l _ _ h1 h2 (fb1_lt n) (fb2_lt n), Option.bind_some]
 congr 1
 dsimp only
 unfold fb1 fb2 fhas
 by_cases c1 : n < 1 ∨ 128 < n
 ·rw [if_pos c1, if_neg (by omega), if_neg (by omega)]; simp
 rw [if_neg c1]
 by_cases c2 : n ≤ 64
 ·rw [if_pos c2, if_pos (by omega), if_neg (by omega), Nat.and_zero]
  have := and_zero h (64 - n).toNat
  cases hb : h.testBit (64 - n).toNat
  ·have := this.2 hb; simp [this]
  ·have : ¬ ((h &&& 2 ^ (64 - n).toNat : Nat) : Int) = 0 := fun e => by rw [this.1 e] at hb; cases hb
   exact decide_eq_true fun e => this e.1
 ·rw [if_neg c2, if_neg (by omega), if_pos (by omega), Nat.and_zero]
  have := and_zero l (128 - n).toNat
  cases hb : l.testBit (128 - n).toNat
  ·have := this.2 hb; simp [this]
  ·have : ¬ ((l &&& 2 ^ (128 - n).toNat : Nat) : Int) = 0 := fun e => by rw [this.1 e] at hb; cases hb
   exact decide_eq_true fun e => this e.2.1
@[reducible] def class_sets.sg : List Shp := [.v (.int .i64)]
@[reducible] def class_sets.rs : Rs := .one (.v (.int .i64))
@[reducible] noncomputable def class_sets.code : Code := Tryz.f126.body.getD .skip
noncomputable def class_sets.C : Ctx := ⟨tab, [], [], ⟨[], []⟩⟩
theorem class_sets.eq (n : Nat) (a0 : Int) : call class_sets.C Tryz.f126 class_sets.code class_sets.sg class_sets.rs n a0 =
 (if a0 = 1 then (some 1)
 else (if a0 = 2 then (some 2)
 else (if a0 = 3 then (some 3)
 else (if a0 = 4 then (some 7)
 else (if a0 = 5 then (some 15)
 else (if a0 = 6 then (some 15)
 else (some 0))))))) := by kernel_rfl
def class_sets.f (c : Int) : Option Int := some (setsC c)
noncomputable def class_sets.c : Con := ⟨126, class_sets.sg, class_sets.rs, class_sets.f⟩
theorem class_sets.con : ConOk Tryz.prog class_sets.c := walked (C := class_sets.C) rfl (by kernel_rfl) (by kernel_rfl) (by kernel_rfl) rfl trivial fun c y h => ⟨0, by
 rw [class_sets.eq, ← h, class_sets.f, setsC]
 repeat' split
 all_goals rfl⟩
@[reducible] def class_Known.sg : List Shp := [.v (.int .i64)]
@[reducible] def class_Known.rs : Rs := .one (.v (.bool))
@[reducible] noncomputable def class_Known.code : Code := Tryz.f124.body.getD .skip
noncomputable def class_Known.C : Ctx := ⟨tab, [class_sets.c], [], ⟨[], []⟩⟩
theorem class_Known.eq (n : Nat) (a0 : Int) : call class_Known.C Tryz.f124 class_Known.code class_Known.sg class_Known.rs n a0 =
 ((class_sets.f a0).bind fun b0 =>
 (some (decide ¬b0 = 0))) := by kernel_rfl
def class_Known.f (c : Int) : Option Bool := some (decide (1 ≤ c ∧ c ≤ 6))
noncomputable def class_Known.c : Con := ⟨124, class_Known.sg, class_Known.rs, class_Known.f⟩
theorem class_Known.con : ConOk Tryz.prog class_Known.c := walked (C := class_Known.C) rfl (by kernel_rfl) (by kernel_rfl) (by kernel_rfl) rfl ⟨class_sets.con, trivial⟩ fun c y h => ⟨0, by
 rw [class_Known.eq, ← h, class_Known.f, class_sets.f, Option.bind_some, ← known_iff]
 congr 1
 by_cases h : setsC c = 0 <;> simp [h]⟩
@[reducible] def class_of.sg : List Shp := [.v (.int .u8)]
@[reducible] def class_of.rs : Rs := .one (.v (.int .i64))
@[reducible] noncomputable def class_of.code : Code := Tryz.f127.body.getD .skip
noncomputable def class_of.C : Ctx := ⟨tab, [], [], ⟨[], [(1, [(3, .bool)]), (3, [(10, .bool)]), (5, [(25, .bool)])]⟩⟩
theorem class_of.eq (n : Nat) (a0 : Int) : call class_of.C Tryz.f127 class_of.code class_of.sg class_of.rs n a0 =
 ((((if a0 ≥ 48 then (some (decide (a0 ≤ 57)))
 else (some false)) : Option Bool)).bind fun b0 =>
 (if b0 = true then (some 1)
 else ((((if a0 ≥ 65 then (if a0 ≤ 90 then (some true)
 else (if a0 ≥ 97 then (some (decide (a0 ≤ 122)))
 else (some false)))
 else (if a0 ≥ 97 then (some (decide (a0 ≤ 122)))
 else (some false))) : Option Bool)).bind fun b1 =>
 (if b1 = true then (some 2)
 else ((((if a0 ≥ 32 then (some (decide (a0 ≤ 126)))
 else (some false)) : Option Bool)).bind fun b2 =>
 (if b2 = true then (some 4)
 else (some 8))))))) := by kernel_rfl
def class_of.f (n : Int) : Option Int := if 0 ≤ n ∧ n < 256 then some (ofN n) else none
noncomputable def class_of.c : Con := ⟨127, class_of.sg, class_of.rs, class_of.f⟩
theorem class_of256 : ∀ n : Fin 256, call class_of.C Tryz.f127 class_of.code class_of.sg class_of.rs 0 ((n.val : Nat) : Int) = some (ofN ((n.val : Nat) : Int)) := by
 intro n
 rw [class_of.eq]
 revert n
 decide +kernel
theorem class_of.con : ConOk Tryz.prog class_of.c := walked (C := class_of.C) rfl (by kernel_rfl) (by kernel_rfl) (by kernel_rfl) rfl trivial fun c y h => ⟨0, by
 have h : class_of.f c = some y := h
 unfold class_of.f at h
 split at h
 ·rename_i hc
  have := class_of256 ⟨c.toNat, by omega⟩
  rw [show ((c.toNat : Nat) : Int) = c by omega] at this
  rw [← h]; exact this
 ·cases h⟩
theorem class_of (x : UInt8) : class_of.f (x.toNat : Int) = some (ofN x.toNat) := by
 have := u8_lt x
 unfold class_of.f; rw [if_pos (by omega)]
@[reducible] def class_First.sg : List Shp := [.v (.int .i64), .v (.str)]
@[reducible] def class_First.rs : Rs := .one (.v (.int .i64))
@[reducible] noncomputable def class_First.code : Code := Tryz.f90.body.getD .skip
noncomputable def class_First.C : Ctx := ⟨tab, [class_sets.c, class_of.c], [], ⟨[(3, [1, 5, 6], 0)], []⟩⟩
noncomputable def class_First.l0 (n : Nat) (v0 : ByteArray) (v1 v2 : Int) : Option Int := run class_First.C (finOf class_First.C Tryz.f90 class_First.rs) n (todoAt 3 class_First.code) ⟨zJ :: .str v0 :: zJ :: zJ :: zJ :: .int .i64 v1 :: .int .i64 v2 :: zK (zK []), [], []⟩
theorem class_First.l0_eq n v0 v1 v2 : class_First.l0 (n + 1) v0 v1 v2 =
 (if v2 < (v0.size : Int) then ((bget v0 v2).bind fun b1 =>
 ((class_of.f (↑(UInt8.toNat b1) : Int)).bind fun b2 =>
 (if bits BinOp.and IntKind.i64 v1 b2 = 0 then (some v2)
 else (class_First.l0 n v0 v1 (IntKind.wrap .i64 (v2 + 1))))))
 else (some (-1))) := by kernel_rfl
theorem class_First.eq (n : Nat) (a0 : Int) (a1 : ByteArray) : call class_First.C Tryz.f90 class_First.code class_First.sg class_First.rs n (a0, a1) =
 ((class_sets.f a0).bind fun b0 =>
 (class_First.l0 n a1 b0 0)) := by kernel_rfl
def class_First.f (x : Int × ByteArray) : Option Int := if x.2.size ≤ 140737488351232 then some (firstFrom (inC x.1) 0 (bl x.2)) else none
noncomputable def class_First.c : Con := ⟨90, class_First.sg, class_First.rs, class_First.f⟩
theorem class_First_l (c : Int) (l : List UInt8) (hl : l.length ≤ 140737488351232) : ∀ (d k i : Nat), i + d = l.length → d < k → class_First.l0 k (sb l) (setsC c) (i : Int) = some (firstFrom (inC c) i (l.drop i))
 | 0, k, i, hd, hk => by
  obtain ⟨k, rfl⟩ : ∃ m, k = m + 1 := ⟨k - 1, by omega⟩
  rw [class_First.l0_eq, if_neg (by rw [size_sb]; omega), List.drop_of_length_le (by omega)]; rfl
 | d + 1, k, i, hd, hk => by
  obtain ⟨k, rfl⟩ : ∃ m, k = m + 1 := ⟨k - 1, by omega⟩
  have hi : i < l.length := by omega
  have ih := class_First_l c l hl d k (i + 1) (by omega) (by omega)
  rw [class_First.l0_eq, if_pos (by rw [size_sb]; omega), bget_sb _ _ hi, Option.bind_some, class_of, Option.bind_some, wrap_succ (by omega), ih, List.drop_eq_getElem_cons hi, firstFrom]
  have h := and_in c l[i]
  cases hx : inC c l[i] with
  | true =>
   rw [hx] at h
   rw [if_neg (of_decide_eq_false h), if_pos rfl]
  | false =>
   rw [hx] at h
   rw [if_pos (of_decide_eq_true h)]; rfl
theorem class_First (c : Int) (l : List UInt8) (hl : l.length ≤ 140737488351232) : class_First.f (c, sb l) = some (firstFrom (inC c) 0 l) := by
 unfold class_First.f
 rw [if_pos (by rw [size_sb]; exact hl), bl_sb]
theorem class_First.con : ConOk Tryz.prog class_First.c := walked (C := class_First.C) rfl (by kernel_rfl) (by kernel_rfl) (by kernel_rfl) rfl ⟨class_sets.con, class_of.con, trivial⟩ fun ⟨c, s⟩ y h => by
 obtain ⟨l, rfl⟩ := ex_sb s
 have h : class_First.f (c, sb l) = some y := h
 unfold class_First.f at h
 split at h
 ·rename_i hl
  rw [size_sb] at hl
  refine ⟨l.length + 1, ?_⟩
  rw [class_First.eq, class_sets.f, Option.bind_some, ← h]
  exact class_First_l c l hl l.length _ 0 (by omega) (by omega)
 ·cases h
@[reducible] def prefix_width.sg : List Shp := [.v (.int .i64)]
@[reducible] def prefix_width.rs : Rs := .one (.v (.int .i64))
@[reducible] noncomputable def prefix_width.code : Code := Tryz.f123.body.getD .skip
noncomputable def prefix_width.C : Ctx := ⟨tab, [], [], ⟨[], []⟩⟩
theorem prefix_width.eq (n : Nat) (a0 : Int) : call prefix_width.C Tryz.f123 prefix_width.code prefix_width.sg prefix_width.rs n a0 =
 (if a0 = 2 then (some 2)
 else (if a0 = 3 then (some 3)
 else (some 0))) := by kernel_rfl
def prefix_width.f (f : Int) : Option Int := some (if f = 2 ∨ f = 3 then f else 0)
noncomputable def prefix_width.c : Con := ⟨123, prefix_width.sg, prefix_width.rs, prefix_width.f⟩
theorem prefix_width.con : ConOk Tryz.prog prefix_width.c := walked (C := prefix_width.C) rfl (by kernel_rfl) (by kernel_rfl) (by kernel_rfl) rfl trivial fun (f : Int) y h => ⟨0, by
 rw [prefix_width.eq, ← h, prefix_width.f]
 by_cases h2 : f = 2
 ·simp [h2]
 ·by_cases h3 : f = 3 <;> simp [h2, h3]⟩
@[reducible] def prefix_Most.sg : List Shp := [.v (.int .i64)]
@[reducible] def prefix_Most.rs : Rs := .one (.v (.int .i64))
@[reducible] noncomputable def prefix_Most.code : Code := Tryz.f125.body.getD .skip
noncomputable def prefix_Most.C : Ctx := ⟨tab, [prefix_width.c], [], ⟨[(3, [3, 5, 6], 0)], []⟩⟩
noncomputable def prefix_Most.l0 (n : Nat) (v0 v1 v2 : Int) : Option Int := run prefix_Most.C (finOf prefix_Most.C Tryz.f125 prefix_Most.rs) n (todoAt 3 prefix_Most.code) ⟨zJ :: zJ :: zJ :: .int .i64 v0 :: zJ :: .int .i64 v1 :: .int .i64 v2 :: zJ :: zJ :: zJ :: zJ :: zJ :: zJ :: [], [], []⟩
theorem prefix_Most.eq (n : Nat) (a0 : Int) : call prefix_Most.C Tryz.f125 prefix_Most.code prefix_Most.sg prefix_Most.rs n a0 =
 ((prefix_width.f a0).bind fun b0 =>
 (prefix_Most.l0 n 0 b0 0)) := by kernel_rfl
def prefix_Most.f (f : Int) : Option Int := some (preMost f)
noncomputable def prefix_Most.c : Con := ⟨125, prefix_Most.sg, prefix_Most.rs, prefix_Most.f⟩
theorem prefix_Most.con : ConOk Tryz.prog prefix_Most.c := walked (C := prefix_Most.C) rfl (by kernel_rfl) (by kernel_rfl) (by kernel_rfl) rfl ⟨prefix_width.con, trivial⟩ fun (f : Int) y h => ⟨9, by
 rw [prefix_Most.eq, ← h, prefix_width.f, prefix_Most.f, Option.bind_some]
 unfold preMost
 by_cases h2 : f = 2
 ·subst h2; kernel_rfl
 ·by_cases h3 : f = 3
  ·subst h3; kernel_rfl
  ·rw [if_neg (fun h => h.elim h2 h3), if_neg h2, if_neg h3]; kernel_rfl⟩
@[reducible] def spec_Check.sg : List Shp := [.a zd5]
@[reducible] def spec_Check.rs : Rs := .one (.v (.int .i64))
@[reducible] noncomputable def spec_Check.code : Code := Tryz.f89.body.getD .skip
noncomputable def spec_Check.C : Ctx := ⟨tab, [class_Known.c, prefix_Most.c], [], ⟨[], []⟩⟩
theorem spec_Check.eq (n : Nat) (a0 a1 a2 a3 a4 : Int) : call spec_Check.C Tryz.f89 spec_Check.code spec_Check.sg spec_Check.rs n (a0, (a1, (a2, (a3, a4)))) =
 (if a0 < 2 then (some 1)
 else (if a0 > 128 then (some 1)
 else ((class_Known.f a1).bind fun b0 =>
 (if ¬b0 = true then (some 6)
 else (if a2 < 1 then (some 3)
 else (if a2 > 3 then (some 3)
 else (if a3 < 1 then (some 5)
 else (if a3 > a4 then (some 5)
 else (if a4 > 999 then (some 5)
 else (if a2 = 1 then (if ¬a3 = a4 then (some 5)
 else (if ¬a2 = 1 then ((prefix_Most.f a2).bind fun b1 =>
 (if a4 > b1 then (some 5)
 else (if a2 = 1 then (if a1 = 6 then (some 13)
 else (some 0))
 else (some 0))))
 else (if a2 = 1 then (if a1 = 6 then (some 13)
 else (some 0))
 else (some 0))))
 else (if ¬a2 = 1 then ((prefix_Most.f a2).bind fun b2 =>
 (if a4 > b2 then (some 5)
 else (if a2 = 1 then (if a1 = 6 then (some 13)
 else (some 0))
 else (some 0))))
 else (if a2 = 1 then (if a1 = 6 then (some 13)
 else (some 0))
 else (some 0))))))))))))) := by kernel_rfl
def spec_Check.f (x : Int × Int × Int × Int × Int) : Option Int := some (specE x.1 x.2.1 x.2.2.1 x.2.2.2.1 x.2.2.2.2)
theorem spec_Check.run (no c fo mi ma : Int) : call spec_Check.C Tryz.f89 spec_Check.code spec_Check.sg spec_Check.rs 0 (no, c, fo, mi, ma) = some (specE no c fo mi ma) := by
 rw [spec_Check.eq]
 simp only [class_Known.f, prefix_Most.f, Option.bind_some, specE, decide_eq_true_eq]
 by_cases h1 : no < 2
 ·rw [if_pos h1, if_pos (.inl h1)]
 rw [if_neg h1]
 by_cases h2 : no > 128
 ·rw [if_pos h2, if_pos (.inr h2)]
 have h12 : ¬ (no < 2 ∨ 128 < no) := by omega
 rw [if_neg h2, if_neg h12]
 by_cases h3 : ¬ (1 ≤ c ∧ c ≤ 6)
 ·rw [if_pos h3, if_pos h3]
 rw [if_neg h3, if_neg h3]
 by_cases h4 : ¬ (1 ≤ fo ∧ fo ≤ 3)
 ·rw [if_pos h4]
  by_cases h41 : fo < 1
  ·rw [if_pos h41]
  ·have h42 : fo > 3 := by omega
   rw [if_neg h41, if_pos h42]
 have h41 : ¬ fo < 1 := by omega
 have h42 : ¬ fo > 3 := by omega
 rw [if_neg h41, if_neg h42, if_neg h4]
 by_cases a1 : mi < 1
 ·simp [a1]
 by_cases a2 : mi > ma
 ·simp [a1, a2]
 by_cases a3 : ma > 999
 ·have a4 : (if fo = 2 then 99 else 999) < ma := by split <;> omega
  simp [a1, a2, a3, a4]
 rw [if_neg a1, if_neg a2, if_neg a3]
 rcases (show fo = 1 ∨ fo = 2 ∨ fo = 3 by omega) with rfl | rfl | rfl
 ·by_cases a4 : mi = ma
  ·subst a4
   by_cases a5 : c = 6 <;> simp [a1, a3, a5]
  ·simp [a1, a2, a4]
 ·have hm : preMost 2 = 99 := rfl
  rw [hm]
  by_cases a4 : ma > 99 <;> simp [a1, a2, a4]
 ·have hm : preMost 3 = 999 := rfl
  rw [hm]
  simp [a1, a2, a3]
noncomputable def spec_Check.c : Con := ⟨89, spec_Check.sg, spec_Check.rs, spec_Check.f⟩
theorem spec_Check.con : ConOk Tryz.prog spec_Check.c := walked (C := spec_Check.C) rfl (by kernel_rfl) (by kernel_rfl) (by kernel_rfl) rfl ⟨class_Known.con, prefix_Most.con, trivial⟩ fun ⟨no, c, fo, mi, ma⟩ y h => ⟨0, (spec_Check.run no c fo mi ma).trans h⟩
@[reducible] def tag_first.sg : List Shp := [.v (.int .i64)]
@[reducible] def tag_first.rs : Rs := .one (.v (.bool))
@[reducible] noncomputable def tag_first.code : Code := Tryz.f150.body.getD .skip
noncomputable def tag_first.C : Ctx := ⟨tab, [], [], ⟨[], []⟩⟩
theorem tag_first.eq (n : Nat) (a0 : Int) : call tag_first.C Tryz.f150 tag_first.code tag_first.sg tag_first.rs n a0 =
 (if a0 > 0 then (if a0 ≤ 255 then (some (decide (bits BinOp.and IntKind.i64 a0 32 = 0)))
 else (some false))
 else (some false)) := by kernel_rfl
noncomputable def tag_first.f : El (sgTy tag_first.sg) → Option (El tag_first.rs.ty) := fun x => match x with
 | a0 =>
 (if a0 > 0 then (if a0 ≤ 255 then (some (decide (bits BinOp.and IntKind.i64 a0 32 = 0)))
  else (some false))
 else (some false))
noncomputable def tag_first.c : Con := ⟨150, tag_first.sg, tag_first.rs, tag_first.f⟩
theorem tag_first.con : ConOk Tryz.prog tag_first.c := walked (C := tag_first.C) rfl (by kernel_rfl) (by kernel_rfl) (by kernel_rfl) rfl trivial fun a0 y h => ⟨0, (tag_first.eq 0 a0).trans h⟩
@[reducible] def tag_Right.sg : List Shp := [.v (.int .i64)]
@[reducible] def tag_Right.rs : Rs := .one (.v (.bool))
@[reducible] noncomputable def tag_Right.code : Code := Tryz.f151.body.getD .skip
noncomputable def tag_Right.C : Ctx := ⟨tab, [tag_first.c], [], ⟨[], []⟩⟩
theorem tag_Right.eq (n : Nat) (a0 : Int) : call tag_Right.C Tryz.f151 tag_Right.code tag_Right.sg tag_Right.rs n a0 =
 (if a0 ≤ 255 then ((tag_first.f a0).bind fun b0 =>
 (if b0 = true then (some (decide ¬bits BinOp.and IntKind.i64 a0 31 = 31))
 else (some false)))
 else (if a0 ≤ 65535 then ((tag_first.f (Int.fdiv a0 (2 ^ 8))).bind fun b1 =>
 (if b1 = true then (if bits BinOp.and IntKind.i64 (Int.fdiv a0 (2 ^ 8)) 31 = 31 then (if bits BinOp.and IntKind.i64 a0 255 ≥ 1 then (some (decide (bits BinOp.and IntKind.i64 a0 255 ≤ 127)))
 else (some false))
 else (some false))
 else (some false)))
 else (some false))) := by kernel_rfl
noncomputable def tag_Right.f : El (sgTy tag_Right.sg) → Option (El tag_Right.rs.ty) := fun x => match x with
 | a0 =>
 (if a0 ≤ 255 then ((tag_first.f a0).bind fun b0 =>
  (if b0 = true then (some (decide ¬bits BinOp.and IntKind.i64 a0 31 = 31))
  else (some false)))
 else (if a0 ≤ 65535 then ((tag_first.f (Int.fdiv a0 (2 ^ 8))).bind fun b1 =>
  (if b1 = true then (if bits BinOp.and IntKind.i64 (Int.fdiv a0 (2 ^ 8)) 31 = 31 then (if bits BinOp.and IntKind.i64 a0 255 ≥ 1 then (some (decide (bits BinOp.and IntKind.i64 a0 255 ≤ 127)))
   else (some false))
   else (some false))
  else (some false)))
  else (some false)))
noncomputable def tag_Right.c : Con := ⟨151, tag_Right.sg, tag_Right.rs, tag_Right.f⟩
theorem tag_Right.con : ConOk Tryz.prog tag_Right.c := walked (C := tag_Right.C) rfl (by kernel_rfl) (by kernel_rfl) (by kernel_rfl) rfl ⟨tag_first.con, trivial⟩ fun a0 y h => ⟨0, (tag_Right.eq 0 a0).trans h⟩
theorem tag_first256 : ∀ n : Fin 256, tag_first.f ((n.val : Nat) : Int) = some (decide (tagKind n.val ≠ 0)) ∧ (tagKind n.val ≠ 0 → (Go.bits .and .i64 ((n.val : Nat) : Int) 31 = 31 ↔ tagKind n.val = 2)) := by decide +kernel
theorem tag_Right256 : ∀ n : Fin 256, tagKind n.val = 2 → ∀ b : Fin 256, tag_Right.f ((256 * n.val + b.val : Nat) : Int) = some (decide (1 ≤ b.val ∧ b.val ≤ 127)) := by decide +kernel
theorem wbyte (a : UInt8) : IntKind.wrap .i64 (a.toNat : Int) = (a.toNat : Int) := wrap_nat (by have := u8_lt a; omega)
theorem or_bytes (a b : UInt8) : Go.bits .or .i64 (IntKind.wrap .i64 ((IntKind.wrap .i64 (a.toNat : Int)) * 2 ^ 8)) (IntKind.wrap .i64 (b.toNat : Int)) = ((256 * a.toNat + b.toNat : Nat) : Int) := by
 have h1 := u8_lt a
 rw [wbyte, wbyte, show (a.toNat : Int) * 2 ^ 8 = ((a.toNat * 256 : Nat) : Int) by omega, wrap_nat (by omega), or_join _ _ (u8_lt a) (u8_lt b)]
@[reducible] def tag_Get.sg : List Shp := [.v (.str), .v (.int .i64)]
@[reducible] def tag_Get.rs : Rs := .tup [.v (.int .i64), .v (.int .i64), .v (.int .i64)]
@[reducible] noncomputable def tag_Get.code : Code := Tryz.f128.body.getD .skip
noncomputable def tag_Get.C : Ctx := ⟨tab, [tag_first.c, tag_Right.c], [], ⟨[], []⟩⟩
theorem tag_Get.eq (n : Nat) (a0 : ByteArray) (a1 : Int) : call tag_Get.C Tryz.f128 tag_Get.code tag_Get.sg tag_Get.rs n (a0, a1) =
 (if a1 < 0 then (some ((0, 0, 1)))
 else (if a1 > (a0.size : Int) then (some ((0, 0, 1)))
 else (if a1 = (a0.size : Int) then (some ((0, 0, 2)))
 else ((bget a0 a1).bind fun b0 =>
 ((tag_first.f (IntKind.wrap .i64 (↑(UInt8.toNat b0) : Int))).bind fun b1 =>
 (if ¬b1 = true then (some ((0, 0, 13)))
 else (if ¬bits BinOp.and IntKind.i64 (IntKind.wrap .i64 (↑(UInt8.toNat b0) : Int)) 31 = 31 then (some ((IntKind.wrap .i64 (↑(UInt8.toNat b0) : Int), IntKind.wrap .i64 (a1 + 1), 0)))
 else (if IntKind.wrap .i64 (a1 + 1) = (a0.size : Int) then (some ((0, 0, 2)))
 else ((bget a0 (IntKind.wrap .i64 (a1 + 1))).bind fun b2 =>
 ((tag_Right.f (bits BinOp.or IntKind.i64 (IntKind.wrap .i64 (IntKind.wrap .i64 (↑(UInt8.toNat b0) : Int) * 2 ^ 8)) (IntKind.wrap .i64 (↑(UInt8.toNat b2) : Int)))).bind fun b3 =>
 (if ¬b3 = true then (some ((0, 0, 13)))
 else (some ((bits BinOp.or IntKind.i64 (IntKind.wrap .i64 (IntKind.wrap .i64 (↑(UInt8.toNat b0) : Int) * 2 ^ 8)) (IntKind.wrap .i64 (↑(UInt8.toNat b2) : Int)), IntKind.wrap .i64 (a1 + 2), 0)))))))))))))) := by kernel_rfl
def tag_Get.f (x : ByteArray × Int) : Option (Int × Int × Int) := if x.1.size ≤ 140737488351232 ∧ 0 ≤ x.2 ∧ x.2 ≤ (x.1.size : Int) then some (tagR x.2.toNat ((bl x.1).drop x.2.toNat)) else none
theorem tag_Get (l : List UInt8) (hl : l.length ≤ 140737488351232) (i : Nat) (hi : i ≤ l.length) : tag_Get.f (sb l, (i : Int)) = some (tagR i (l.drop i)) := by
 unfold tag_Get.f
 rw [if_pos ⟨by rw [size_sb]; exact hl, by omega, by rw [size_sb]; omega⟩, bl_sb, Int.toNat_natCast]
theorem tag_Get.run (l : List UInt8) (hl : l.length ≤ 140737488351232) (i : Nat) (hi : i ≤ l.length) : call tag_Get.C Tryz.f128 tag_Get.code tag_Get.sg tag_Get.rs 0 (sb l, (i : Int)) = some (tagR i (l.drop i)) := by
 have b1 : ¬ (i : Int) < 0 := by omega
 have b2 : ¬ (i : Int) > (l.length : Int) := by omega
 rw [tag_Get.eq, if_neg b1, size_sb, if_neg b2]
 cases hd : l.drop i with
 | nil =>
  have h : (i : Int) = (l.length : Int) := by have := congrArg List.length hd; rw [List.length_drop] at this; simp at this; omega
  rw [if_pos h]; rfl
 | cons a m =>
  have hlen := len_drop hd
  have b3 : ¬ (i : Int) = (l.length : Int) := by omega
  obtain ⟨f1, f2⟩ := tag_first256 ⟨a.toNat, u8_lt a⟩
  have g1 : IntKind.wrap .i64 ((i : Int) + 1) = ((i + 1 : Nat) : Int) := wrap_succ (by omega)
  have g2 : IntKind.wrap .i64 ((i : Int) + 2) = ((i + 2 : Nat) : Int) := by rw [show (i : Int) + 2 = ((i + 2 : Nat) : Int) by omega]; exact wrap_nat (by omega)
  have c1 : ((i + 1 : Nat) : Int) = (l.length : Int) ↔ m = [] := by
   constructor
   ·intro h; exact List.eq_nil_of_length_eq_zero (by omega)
   ·intro h; rw [h] at hlen; simp at hlen; omega
  have hdrop : ∀ b m', m = b :: m' → l.drop (i + 1) = b :: m' := by intro b m' e; obtain ⟨-, -, h⟩ := drop_cons hd; rw [h, e]
  rw [if_neg b3, bget_drop hd, Option.bind_some, wbyte, f1, Option.bind_some, g1, g2]
  clear f1
  rcases tagKind_cases a.toNat with h0 | h1 | h2
  ·rw [tagR_cons, if_pos h0, if_pos (by simp [h0])]
  ·have hne : tagKind a.toNat ≠ 0 := by rw [h1]; decide
   have f3 : ¬ Go.bits .and .i64 (a.toNat : Int) 31 = 31 := by intro h; rw [f2 hne, h1] at h; exact absurd h (by decide)
   rw [tagR_cons, if_neg hne, if_pos h1, if_neg (by simp [hne]), if_pos f3]
  ·have hne : tagKind a.toNat ≠ 0 := by rw [h2]; decide
   have f3 : Go.bits .and .i64 (a.toNat : Int) 31 = 31 := (f2 hne).2 h2
   have hn1 : tagKind a.toNat ≠ 1 := by rw [h2]; decide
   rw [tagR_cons, if_neg hne, if_neg hn1, if_neg (by simp [hne]), if_neg (not_not_intro f3)]
   clear f3 f2
   cases m with
   | nil => rw [if_pos (c1.2 rfl)]
   | cons b m' =>
    have hd' := hdrop b m' rfl
    have hlen' := len_drop hd'
    have b6 : ¬ ((i + 1 : Nat) : Int) = (l.length : Int) := by omega
    have f4 := tag_Right256 ⟨a.toNat, u8_lt a⟩ h2 ⟨b.toNat, u8_lt b⟩
    have ob := or_bytes a b
    rw [wbyte] at ob
    rw [if_neg b6, bget_drop hd', Option.bind_some, ob, f4, Option.bind_some]
    by_cases hb : 1 ≤ b.toNat ∧ b.toNat ≤ 127
    ·rw [if_neg (by simp [hb])]; simp only [hb, and_self, if_true]
    ·rw [if_pos (by simp [hb])]; simp only [hb, if_false]
noncomputable def tag_Get.c : Con := ⟨128, tag_Get.sg, tag_Get.rs, tag_Get.f⟩
theorem tag_Get.con : ConOk Tryz.prog tag_Get.c := walked (C := tag_Get.C) rfl (by kernel_rfl) (by kernel_rfl) (by kernel_rfl) rfl ⟨tag_first.con, tag_Right.con, trivial⟩ fun ⟨s, i⟩ y h => by
 obtain ⟨l, rfl⟩ := ex_sb s
 have h : tag_Get.f (sb l, i) = some y := h
 unfold tag_Get.f at h
 split at h
 ·rename_i hc
  obtain ⟨h1, h2, h3⟩ := hc
  rw [size_sb] at h1 h3
  obtain ⟨n, rfl⟩ : ∃ n : Nat, i = (n : Int) := ⟨Int.toNat i, (Int.toNat_of_nonneg h2).symm⟩
  rw [bl_sb, Int.toNat_natCast] at h
  exact ⟨0, (tag_Get.run l h1 n (by have h3 : (n : Int) ≤ (l.length : Int) := h3; omega)).trans h⟩
 ·cases h
@[reducible] def ber_Size.sg : List Shp := [.v (.int .i64)]
@[reducible] def ber_Size.rs : Rs := .one (.v (.int .i64))
@[reducible] noncomputable def ber_Size.code : Code := Tryz.f152.body.getD .skip
noncomputable def ber_Size.C : Ctx := ⟨tab, [], [], ⟨[], []⟩⟩
theorem ber_Size.eq (n : Nat) (a0 : Int) : call ber_Size.C Tryz.f152 ber_Size.code ber_Size.sg ber_Size.rs n a0 =
 (if a0 < 0 then (some 0)
 else (if a0 > 65535 then (some 0)
 else (if a0 > 255 then (some 3)
 else (if a0 > 127 then (some 2)
 else (some 1))))) := by kernel_rfl
noncomputable def ber_Size.f : El (sgTy ber_Size.sg) → Option (El ber_Size.rs.ty) := fun x => match x with
 | a0 =>
 (if a0 < 0 then (some 0)
 else (if a0 > 65535 then (some 0)
  else (if a0 > 255 then (some 3)
  else (if a0 > 127 then (some 2)
   else (some 1)))))
noncomputable def ber_Size.c : Con := ⟨152, ber_Size.sg, ber_Size.rs, ber_Size.f⟩
theorem ber_Size.con : ConOk Tryz.prog ber_Size.c := walked (C := ber_Size.C) rfl (by kernel_rfl) (by kernel_rfl) (by kernel_rfl) rfl trivial fun a0 y h => ⟨0, (ber_Size.eq 0 a0).trans h⟩
theorem ber_Size1 (n : Nat) (h : n ≤ 127) : ber_Size.f (n : Int) = some 1 := by
 have b1 : ¬ (n : Int) < 0 := by omega
 have b2 : ¬ (n : Int) > 65535 := by omega
 have b3 : ¬ (n : Int) > 255 := by omega
 have b4 : ¬ (n : Int) > 127 := by omega
 simp only [ber_Size.f]
 rw [if_neg b1, if_neg b2, if_neg b3, if_neg b4]
theorem ber_Size2 (n : Nat) (h1 : 127 < n) (h : n ≤ 255) : ber_Size.f (n : Int) = some 2 := by
 have b1 : ¬ (n : Int) < 0 := by omega
 have b2 : ¬ (n : Int) > 65535 := by omega
 have b3 : ¬ (n : Int) > 255 := by omega
 have b4 : (n : Int) > 127 := by omega
 simp only [ber_Size.f]
 rw [if_neg b1, if_neg b2, if_neg b3, if_pos b4]
theorem ber_Size3 (n : Nat) (h1 : 255 < n) (h : n ≤ 65535) : ber_Size.f (n : Int) = some 3 := by
 have b1 : ¬ (n : Int) < 0 := by omega
 have b2 : ¬ (n : Int) > 65535 := by omega
 have b3 : (n : Int) > 255 := by omega
 simp only [ber_Size.f]
 rw [if_neg b1, if_neg b2, if_pos b3]
@[reducible] def ber_Get.sg : List Shp := [.v (.str), .v (.int .i64)]
@[reducible] def ber_Get.rs : Rs := .tup [.v (.int .i64), .v (.int .i64), .v (.int .i64)]
@[reducible] noncomputable def ber_Get.code : Code := Tryz.f129.body.getD .skip
noncomputable def ber_Get.C : Ctx := ⟨tab, [ber_Size.c], [], ⟨[(14, [0, 1, 7, 8, 44, 45], 0)], []⟩⟩
noncomputable def ber_Get.l0 (n : Nat) (v0 : ByteArray) (v1 v2 v3 v4 v5 : Int) : Option ((Int × (Int × Int))) := run ber_Get.C (finOf ber_Get.C Tryz.f129 ber_Get.rs) n (todoAt 14 ber_Get.code) ⟨.str v0 :: .int .i64 v1 :: zJ :: zJ :: zJ :: zJ :: zJ :: .int .i64 v2 :: .int .i64 v3 :: zJ :: zJ :: zJ :: zK (zK (zK (zK (.int .i64 v4 :: .int .i64 v5 :: zJ :: zJ :: zJ :: zJ :: zJ :: zK (zK []))))), [], []⟩
theorem ber_Get.l0_eq n v0 v1 v2 v3 v4 v5 : ber_Get.l0 (n + 1) v0 v1 v2 v3 v4 v5 =
 (if v5 < v4 then ((bget v0 (IntKind.wrap .i64 (v1 + v5))).bind fun b1 =>
 (ber_Get.l0 n v0 v1 (bits BinOp.or IntKind.i64 (IntKind.wrap .i64 (v2 * 2 ^ 8)) (IntKind.wrap .i64 (↑(UInt8.toNat b1) : Int))) v3 v4 (IntKind.wrap .i64 (v5 + 1))))
 else ((ber_Size.f v2).bind fun b2 =>
 (if ¬b2 = IntKind.wrap .i64 (v3 + 1) then (some ((0, 0, 14)))
 else (some ((v2, IntKind.wrap .i64 (v1 + v3), 0)))))) := by kernel_rfl
theorem ber_Get.eq (n : Nat) (a0 : ByteArray) (a1 : Int) : call ber_Get.C Tryz.f129 ber_Get.code ber_Get.sg ber_Get.rs n (a0, a1) =
 (if a1 < 0 then (some ((0, 0, 1)))
 else (if a1 > (a0.size : Int) then (some ((0, 0, 1)))
 else (if a1 = (a0.size : Int) then (some ((0, 0, 2)))
 else ((bget a0 a1).bind fun b0 =>
 (if IntKind.wrap .i64 (↑(UInt8.toNat b0) : Int) > 127 then (if IntKind.wrap .i64 (↑(UInt8.toNat b0) : Int) = 128 then (some ((0, 0, 14)))
 else (if IntKind.wrap .i64 (↑(UInt8.toNat b0) : Int) > 130 then (some ((0, 0, 14)))
 else (if IntKind.wrap .i64 ((a0.size : Int) - IntKind.wrap .i64 (a1 + 1)) < IntKind.wrap .i64 (IntKind.wrap .i64 (↑(UInt8.toNat b0) : Int) - 128) then (some ((0, 0, 2)))
 else (ber_Get.l0 n a0 (IntKind.wrap .i64 (a1 + 1)) 0 (IntKind.wrap .i64 (IntKind.wrap .i64 (↑(UInt8.toNat b0) : Int) - 128)) (IntKind.wrap .i64 (IntKind.wrap .i64 (↑(UInt8.toNat b0) : Int) - 128)) 0))))
 else (if IntKind.wrap .i64 ((a0.size : Int) - IntKind.wrap .i64 (a1 + 1)) < 0 then (some ((0, 0, 2)))
 else (ber_Get.l0 n a0 (IntKind.wrap .i64 (a1 + 1)) (IntKind.wrap .i64 (↑(UInt8.toNat b0) : Int)) 0 0 0))))))) := by kernel_rfl
def ber_Get.f (x : ByteArray × Int) : Option (Int × Int × Int) := if x.1.size ≤ 140737488351232 ∧ 0 ≤ x.2 ∧ x.2 ≤ (x.1.size : Int) then some (berR x.2.toNat ((bl x.1).drop x.2.toNat)) else none
theorem ber_Get (l : List UInt8) (hl : l.length ≤ 140737488351232) (i : Nat) (hi : i ≤ l.length) : ber_Get.f (sb l, (i : Int)) = some (berR i (l.drop i)) := by
 unfold ber_Get.f
 rw [if_pos ⟨by rw [size_sb]; exact hl, by omega, by rw [size_sb]; omega⟩, bl_sb, Int.toNat_natCast]
theorem ber_Get.run (l : List UInt8) (hl : l.length ≤ 140737488351232) (i : Nat) (hi : i ≤ l.length) : call ber_Get.C Tryz.f129 ber_Get.code ber_Get.sg ber_Get.rs 3 (sb l, (i : Int)) = some (berR i (l.drop i)) := by
 have b1 : ¬ (i : Int) < 0 := by omega
 have b2 : ¬ (i : Int) > (l.length : Int) := by omega
 have e28 : (2 : Int) ^ 8 = 256 := by decide
 rw [ber_Get.eq, if_neg b1, size_sb, if_neg b2]
 simp only [wrap_w]
 cases hd : l.drop i with
 | nil =>
  have h : (i : Int) = (l.length : Int) := by have := congrArg List.length hd; rw [List.length_drop] at this; simp at this; omega
  rw [if_pos h]; rfl
 | cons a m =>
  have hlen := len_drop hd
  have ha := u8_lt a
  have b3 : ¬ (i : Int) = (l.length : Int) := by omega
  have b4 : 0 ≤ (i : Int) := by omega
  have b5 : (i : Int) < (l.length : Int) := by omega
  have g1 : wrap64 ((i : Int) + 1) = ((i + 1 : Nat) : Int) := wrap64_succ (by omega)
  have g0 : wrap64 ((l.length : Int) - ((i + 1 : Nat) : Int)) = (m.length : Int) := by rw [show (l.length : Int) - ((i + 1 : Nat) : Int) = ((m.length : Nat) : Int) by omega]; exact wrap64_nat (by omega)
  have hdrop : ∀ b m', m = b :: m' → l.drop (i + 1) = b :: m' := by intro b m' e; obtain ⟨-, -, h⟩ := drop_cons hd; rw [h, e]
  rw [if_neg b3, bget_drop hd, Option.bind_some, wrap_byte, g1, g0, berR]
  by_cases h1 : a.toNat ≤ 127
  ·have q1 : ¬ (a.toNat : Int) > 127 := by omega
   have q2 : ¬ (m.length : Int) < 0 := by omega
   have q3 : ¬ (0 : Int) < 0 := by omega
   have q4 : wrap64 (((i + 1 : Nat) : Int) + 0) = ((i + 1 : Nat) : Int) := by rw [Int.add_zero]; exact wrap64_nat (by omega)
   rw [if_pos h1, if_neg q1]
   rw [if_neg q2, ber_Get.l0_eq 2]
   simp only [wrap_w]
   rw [if_neg q3, ber_Size1 _ h1, Option.bind_some, q4, wr1, if_neg (not_not_intro rfl)]
  ·have q1 : (a.toNat : Int) > 127 := by omega
   rw [if_neg h1, if_pos q1]
   by_cases h2 : a.toNat = 128 ∨ 130 < a.toNat
   ·rw [if_pos h2]
    by_cases q2 : (a.toNat : Int) = 128
    ·rw [if_pos q2]
    ·have q3 : (a.toNat : Int) > 130 := by omega
     rw [if_neg q2, if_pos q3]
   ·have q2 : ¬ (a.toNat : Int) = 128 := by omega
    have q3 : ¬ (a.toNat : Int) > 130 := by omega
    rw [if_neg h2, if_neg q2, if_neg q3]
    have hw : wrap64 ((a.toNat : Int) - 128) = ((a.toNat - 128 : Nat) : Int) := by rw [show (a.toNat : Int) - 128 = ((a.toNat - 128 : Nat) : Int) by omega]; exact wrap64_nat (by omega)
    rw [hw]
    clear hw g0 g1
    by_cases h3 : m.length < a.toNat - 128
    ·have q4 : (m.length : Int) < ((a.toNat - 128 : Nat) : Int) := by omega
     rw [if_pos h3, if_pos q4]
    ·have q4 : ¬ (m.length : Int) < ((a.toNat - 128 : Nat) : Int) := by omega
     rw [if_neg h3, if_neg q4]
     by_cases h4 : a.toNat = 129
     ·rw [if_pos h4, h4]
      rw [h4] at h3
      cases m with
      | nil => simp at h3
      | cons b m' =>
       have hd' := hdrop b m' rfl
       have hlen' := len_drop hd'
       have hb := u8_lt b
       have p0 : wrap64 (((i + 1 : Nat) : Int) + 0) = ((i + 1 : Nat) : Int) := by rw [Int.add_zero]; exact wrap64_nat (by omega)
       have p1 : 0 ≤ ((i + 1 : Nat) : Int) := by omega
       have p2 : ((i + 1 : Nat) : Int) < (l.length : Int) := by omega
       have p3 : wrap64 (((i + 1 : Nat) : Int) + ((129 - 128 : Nat) : Int)) = ((i + 2 : Nat) : Int) := by rw [show ((i + 1 : Nat) : Int) + ((129 - 128 : Nat) : Int) = ((i + 2 : Nat) : Int) by omega]; exact wrap64_nat (by omega)
       rw [ber_Get.l0_eq 2, if_pos (show (0 : Int) < ((129 - 128 : Nat) : Int) by decide)]
       simp only [wrap_w, e28]
       rw [p0, bget_drop hd', Option.bind_some, or_zero, ber_Get.l0_eq 1]
       simp only [wrap_w, e28]
       rw [if_neg (show ¬ wrap64 (0 + 1) < ((129 - 128 : Nat) : Int) by rw [wr1]; decide), p3]
       by_cases h5 : b.toNat ≤ 127
       ·rw [ber_Size1 _ h5, Option.bind_some, if_pos (by simp [wrap64])]
        simp [h5]
       ·rw [ber_Size2 _ (by omega) (by omega), Option.bind_some, if_neg (by simp [wrap64])]
        simp [h5]
     ·have h5 : a.toNat = 130 := by omega
      rw [if_neg h4, h5]
      rw [h5] at h3
      cases m with
      | nil => simp at h3
      | cons b m' =>
       cases m' with
       | nil => simp at h3
       | cons c m'' =>
        have hd' := hdrop b _ rfl
        have hlen' := len_drop hd'
        have hd'' : l.drop (i + 1 + 1) = c :: m'' := by obtain ⟨-, -, h⟩ := drop_cons hd'; exact h
        have hlen'' := len_drop hd''
        have hb := u8_lt b
        have hc := u8_lt c
        have p1 : 0 ≤ ((i + 1 : Nat) : Int) := by omega
        have p2 : ((i + 1 : Nat) : Int) < (l.length : Int) := by omega
        have p5 : 0 ≤ ((i + 1 + 1 : Nat) : Int) := by omega
        have p6 : ((i + 1 + 1 : Nat) : Int) < (l.length : Int) := by omega
        have n1 : i + 1 ≤ 9223372036854775807 := by omega
        have n2 : i + 1 + 1 ≤ 9223372036854775807 := by omega
        have n3 : i + 3 ≤ 9223372036854775807 := by omega
        have e1 : ((i + 1 : Nat) : Int) + 1 = ((i + 1 + 1 : Nat) : Int) := by omega
        have e3 : ((i + 1 : Nat) : Int) + ((130 - 128 : Nat) : Int) = ((i + 3 : Nat) : Int) := by omega
        have p0 : wrap64 (((i + 1 : Nat) : Int) + 0) = ((i + 1 : Nat) : Int) := by rw [Int.add_zero]; exact wrap64_nat n1
        have p4 : wrap64 (((i + 1 : Nat) : Int) + wrap64 (0 + 1)) = ((i + 1 + 1 : Nat) : Int) := by rw [wr1, e1]; exact wrap64_nat n2
        have p3 : wrap64 (((i + 1 : Nat) : Int) + ((130 - 128 : Nat) : Int)) = ((i + 3 : Nat) : Int) := by rw [e3]; exact wrap64_nat n3
        rw [ber_Get.l0_eq 2, if_pos (show (0 : Int) < ((130 - 128 : Nat) : Int) by decide)]
        simp only [wrap_w, e28]
        rw [p0, bget_drop hd', Option.bind_some, or_zero, ber_Get.l0_eq 1]
        simp only [wrap_w, e28]
        rw [if_pos (show wrap64 (0 + 1) < ((130 - 128 : Nat) : Int) by rw [wr1]; decide), p4, bget_drop hd'', Option.bind_some, or_two, ber_Get.l0_eq 0]
        simp only [wrap_w, e28]
        rw [if_neg (show ¬ wrap64 (wrap64 (0 + 1) + 1) < ((130 - 128 : Nat) : Int) by rw [wr1, wr2]; decide), p3]
        clear p0 p4 p3 e1 e3
        by_cases h6 : b.toNat = 0
        ·rw [show 256 * b.toNat + c.toNat = c.toNat by omega]
         by_cases h7 : c.toNat ≤ 127
         ·rw [ber_Size1 _ h7, Option.bind_some, if_pos (by simp [wrap64])]
          simp [h6]
         ·rw [ber_Size2 _ (by omega) (by omega), Option.bind_some, if_pos (by simp [wrap64])]
          simp [h6]
        ·rw [ber_Size3 _ (by omega) (by omega), Option.bind_some, if_neg (by simp [wrap64])]
         simp [h6]
noncomputable def ber_Get.c : Con := ⟨129, ber_Get.sg, ber_Get.rs, ber_Get.f⟩
theorem ber_Get.con : ConOk Tryz.prog ber_Get.c := walked (C := ber_Get.C) rfl (by kernel_rfl) (by kernel_rfl) (by kernel_rfl) rfl ⟨ber_Size.con, trivial⟩ fun ⟨s, i⟩ y h => by
 obtain ⟨l, rfl⟩ := ex_sb s
 have h : ber_Get.f (sb l, i) = some y := h
 unfold ber_Get.f at h
 split at h
 ·rename_i hc
  obtain ⟨h1, h2, h3⟩ := hc
  rw [size_sb] at h1 h3
  obtain ⟨n, rfl⟩ : ∃ n : Nat, i = (n : Int) := ⟨Int.toNat i, (Int.toNat_of_nonneg h2).symm⟩
  rw [bl_sb, Int.toNat_natCast] at h
  exact ⟨3, (ber_Get.run l h1 n (by have h3 : (n : Int) ≤ (l.length : Int) := h3; omega)).trans h⟩
 ·cases h
@[reducible] def tlv_Get.sg : List Shp := [.v (.str)]
@[reducible] def tlv_Get.rs : Rs := .tup [.v (.sl zdE), .v (.int .i64), .v (.int .i64)]
@[reducible] noncomputable def tlv_Get.code : Code := Tryz.f91.body.getD .skip
noncomputable def tlv_Get.C : Ctx := ⟨tab, [tag_Get.c, ber_Get.c], [], ⟨[(4, [0, 5, 6, 7], 1)], []⟩⟩
noncomputable def tlv_Get.l0 (n : Nat) (v0 : ByteArray) (v1 : Int) (v2 : List Int) : Option ((List ((Int × ByteArray)) × (Int × Int))) := run tlv_Get.C (finOf tlv_Get.C Tryz.f91 tlv_Get.rs) n (todoAt 4 tlv_Get.code) ⟨.str v0 :: zJ :: zJ :: zJ :: zJ :: .nilsl :: .mp 0 :: .int .i64 v1 :: zK (zK (zK (zK (zK (zK (zK (zK []))))))), [[.keys 3 4 (.int .i64) v2]], []⟩
noncomputable def tlv_Get.l1 (n : Nat) (v0 : ByteArray) (v1 : List zE) (v2 : Int) (v3 : List Int) : Option ((List ((Int × ByteArray)) × (Int × Int))) := run tlv_Get.C (finOf tlv_Get.C Tryz.f91 tlv_Get.rs) n (todoAt 4 tlv_Get.code) ⟨.str v0 :: zJ :: zJ :: zJ :: zJ :: .sl (some 0) zdE v1 :: .mp 0 :: .int .i64 v2 :: zK (zK (zK (zK (zK (zK (zK (zK []))))))), [[.keys 3 4 (.int .i64) v3]], [true]⟩
theorem tlv_Get.l0_eq n v0 v1 v2 : tlv_Get.l0 (n + 1) v0 v1 v2 =
 (if v1 < (v0.size : Int) then ((tag_Get.f (v0, v1)).bind fun b0 =>
 (if ¬b0.2.2 = 0 then (some (([], b0.2.2, v1)))
 else ((ber_Get.f (v0, b0.2.1)).bind fun b1 =>
 (if ¬b1.2.2 = 0 then (some (([], b1.2.2, b0.2.1)))
 else (if IntKind.wrap .i64 ((v0.size : Int) - b1.2.1) < b1.1 then (some (([], 2, (v0.size : Int))))
 else (if -9223372036854775808 ≤ b0.1 ∧ b0.1 ≤ 9223372036854775807 then (if b0.1 ∈ v2 then (some (([], 10, v1)))
 else (if -9223372036854775808 ≤ b0.1 ∧ b0.1 ≤ 9223372036854775807 ∧ List.length v2 < 9223372036854775807 then ((ssub v0 b1.2.1 (IntKind.wrap .i64 (b1.2.1 + b1.1))).bind fun b2 =>
 ((lcat 24 [] [(b0.1, b2)]).bind fun b3 =>
 (tlv_Get.l1 n v0 b3 (IntKind.wrap .i64 (b1.2.1 + b1.1)) (v2 ++ [b0.1]))))
 else none))
 else none))))))
 else (some (([], 0, 0)))) := by kernel_rfl
theorem tlv_Get.l1_eq n v0 v1 v2 v3 : tlv_Get.l1 (n + 1) v0 v1 v2 v3 =
 (if v2 < (v0.size : Int) then ((tag_Get.f (v0, v2)).bind fun b4 =>
 (if ¬b4.2.2 = 0 then (some (([], b4.2.2, v2)))
 else ((ber_Get.f (v0, b4.2.1)).bind fun b5 =>
 (if ¬b5.2.2 = 0 then (some (([], b5.2.2, b4.2.1)))
 else (if IntKind.wrap .i64 ((v0.size : Int) - b5.2.1) < b5.1 then (some (([], 2, (v0.size : Int))))
 else (if -9223372036854775808 ≤ b4.1 ∧ b4.1 ≤ 9223372036854775807 then (if b4.1 ∈ v3 then (some (([], 10, v2)))
 else (if -9223372036854775808 ≤ b4.1 ∧ b4.1 ≤ 9223372036854775807 ∧ List.length v3 < 9223372036854775807 then ((ssub v0 b5.2.1 (IntKind.wrap .i64 (b5.2.1 + b5.1))).bind fun b6 =>
 ((lcat 24 v1 [(b4.1, b6)]).bind fun b7 =>
 (tlv_Get.l1 n v0 b7 (IntKind.wrap .i64 (b5.2.1 + b5.1)) (v3 ++ [b4.1]))))
 else none))
 else none))))))
 else (some ((v1, 0, 0)))) := by kernel_rfl
theorem tlv_Get.eq (n : Nat) (a0 : ByteArray) : call tlv_Get.C Tryz.f91 tlv_Get.code tlv_Get.sg tlv_Get.rs n a0 =
 (tlv_Get.l0 n a0 0 []) := by kernel_rfl
def tlv_Get.f (s : ByteArray) : Option (List (Int × ByteArray) × Int × Int) := if s.size ≤ 1000000000000 then some (tlvG (s.size + 1) (bl s) 0 []) else none
theorem tlv_Get (l : List UInt8) (hl : l.length ≤ 1000000000000) : tlv_Get.f (sb l) = some (tlvG (l.length + 1) l 0 []) := by
 unfold tlv_Get.f
 rw [if_pos (by rw [size_sb]; exact hl), size_sb, bl_sb]
theorem tlv_Get_l1 (l : List UInt8) (hl : l.length ≤ 1000000000000) : ∀ (k i : Nat) (o : List (Int × ByteArray)), i ≤ l.length → o.length ≤ i → l.length < k + i →
  tlv_Get.l1 k (sb l) o (i : Int) (o.map Prod.fst) = some (tlvG k l i o)
 | 0, i, o, hi, ho, hk => absurd hk (by omega)
 | k + 1, i, o, hi, ho, hk => by
  rw [tlv_Get.l1_eq, size_sb]
  by_cases c : i < l.length
  ·rw [if_pos (by omega), tag_Get l (by omega) i hi, Option.bind_some]
   rcases tlvG_step (k := k) (o := o) hl c with ⟨e, he, h1, h2⟩ | ⟨t, n, e, h1, hn, he, h2, h3⟩ | ⟨t, n, z, m, ht, h1, hn, hin, h2, hnm, hm, hz, h3⟩
   ·rw [h1, if_pos he, h2]
   ·rw [h1, if_neg (by simp)]
    dsimp only
    rw [ber_Get l (by omega) n hn, Option.bind_some, h2, if_pos he, h3]
   ·rw [h1, if_neg (by simp)]
    dsimp only
    rw [ber_Get l (by omega) n hn, Option.bind_some, h2, if_neg (by simp), h3]
    dsimp only
    rw [wrap_id (x := (l.length : Int) - (m : Int)) (by omega) (by omega), show IntKind.wrap .i64 ((m : Int) + (z : Int)) = ((m + z : Nat) : Int) by rw [wrap_id (by omega) (by omega)]; omega]
    by_cases c3 : l.length < m + z
    ·rw [if_pos (by omega), if_pos c3]
    ·rw [if_neg (by omega), if_neg c3, if_pos (by omega)]
     by_cases c4 : t ∈ o.map Prod.fst
     ·rw [if_pos c4, if_pos c4]
     ·rw [if_neg c4, if_neg c4, if_pos ⟨by omega, by omega, by rw [List.length_map]; omega⟩, ssub_sb _ _ _ (by omega) (by omega), Option.bind_some, lcat_ok _ _ _ (by simp only [List.length_cons, List.length_nil]; omega), Option.bind_some]
      have := tlv_Get_l1 l hl k (m + z) (o ++ [(t, sb ((l.take (m + z)).drop m))]) (by omega) (by rw [List.length_append]; simp only [List.length_cons, List.length_nil]; omega) (by omega)
      rw [List.map_append] at this
      exact this
  ·rw [if_neg (by omega), tlvG, if_neg c]
theorem tlv_Get.run (l : List UInt8) (hl : l.length ≤ 1000000000000) : call tlv_Get.C Tryz.f91 tlv_Get.code tlv_Get.sg tlv_Get.rs (l.length + 1) (sb l) = some (tlvG (l.length + 1) l 0 []) := by
 rw [tlv_Get.eq, tlv_Get.l0_eq, size_sb]
 by_cases c : 0 < l.length
 ·have t0 := tag_Get l (by omega) 0 (Nat.zero_le _)
  have t0 : tag_Get.f (sb l, 0) = _ := t0
  rw [if_pos (by omega), t0, Option.bind_some]
  rcases tlvG_step (k := l.length) (o := []) hl c with ⟨e, he, h1, h2⟩ | ⟨t, n, e, h1, hn, he, h2, h3⟩ | ⟨t, n, z, m, ht, h1, hn, hin, h2, hnm, hm, hz, h3⟩
  ·rw [h1, if_pos he, h2]; rfl
  ·rw [h1, if_neg (by simp)]
   dsimp only
   rw [ber_Get l (by omega) n hn, Option.bind_some, h2, if_pos he, h3]
  ·rw [h1, if_neg (by simp)]
   dsimp only
   rw [ber_Get l (by omega) n hn, Option.bind_some, h2, if_neg (by simp), h3]
   dsimp only
   rw [wrap_id (x := (l.length : Int) - (m : Int)) (by omega) (by omega), show IntKind.wrap .i64 ((m : Int) + (z : Int)) = ((m + z : Nat) : Int) by rw [wrap_id (by omega) (by omega)]; omega]
   by_cases c3 : l.length < m + z
   ·rw [if_pos (by omega), if_pos c3]
   ·have e1 : ¬ t ∈ ([] : List Int) := by simp
    have e2 : ¬ t ∈ ([] : List (Int × ByteArray)).map Prod.fst := by simp
    rw [if_neg (by omega), if_neg c3, if_pos (by omega), if_neg e1, if_neg e2, if_pos ⟨by omega, by omega, by simp⟩, ssub_sb _ _ _ (by omega) (by omega), Option.bind_some, lcat_ok _ _ _ (by simp only [List.length_cons, List.length_nil]; omega), Option.bind_some]
    exact tlv_Get_l1 l hl l.length (m + z) [(t, sb ((l.take (m + z)).drop m))] (by omega) (by simp only [List.length_cons, List.length_nil]; omega) (by omega)
 ·rw [if_neg (by omega), tlvG, if_neg c]
noncomputable def tlv_Get.c : Con := ⟨91, tlv_Get.sg, tlv_Get.rs, tlv_Get.f⟩
theorem tlv_Get.con : ConOk Tryz.prog tlv_Get.c := walked (C := tlv_Get.C) rfl (by kernel_rfl) (by kernel_rfl) (by kernel_rfl) rfl ⟨tag_Get.con, ber_Get.con, trivial⟩ fun s y h => by
 obtain ⟨l, rfl⟩ := ex_sb s
 have h : tlv_Get.f (sb l) = some y := h
 unfold tlv_Get.f at h
 split at h
 ·rename_i hc
  rw [size_sb] at hc
  rw [size_sb, bl_sb] at h
  exact ⟨l.length + 1, (tlv_Get.run l hc).trans h⟩
 ·cases h
theorem spec_Check (no c fo mi ma : Int) : spec_Check.f (no, c, fo, mi, ma) = some (specE no c fo mi ma) := rfl
@[reducible] def spec_Value.sg : List Shp := [.a zd5, .v (.str)]
@[reducible] def spec_Value.rs : Rs := .one (.v (.int .i64))
@[reducible] noncomputable def spec_Value.code : Code := Tryz.f45.body.getD .skip
noncomputable def spec_Value.C : Ctx := ⟨tab, [spec_Check.c, class_First.c, tlv_Get.c], [], ⟨[], []⟩⟩
theorem spec_Value.eq (n : Nat) (a0 a1 a2 a3 a4 : Int) (a5 : ByteArray) : call spec_Value.C Tryz.f45 spec_Value.code spec_Value.sg spec_Value.rs n ((a0, (a1, (a2, (a3, a4)))), a5) =
 ((spec_Check.f (a0, a1, a2, a3, a4)).bind fun b0 =>
 (if ¬b0 = 0 then (some 1)
 else (if (a5.size : Int) < a3 then (some 5)
 else (if (a5.size : Int) > a4 then (some 5)
 else ((class_First.f (a1, a5)).bind fun b1 =>
 (if b1 ≥ 0 then (some 6)
 else (if a1 = 6 then ((tlv_Get.f a5).bind fun b2 =>
 (if ¬b2.2.1 = 0 then (some 13)
 else (some 0)))
 else (some 0)))))))) := by kernel_rfl
noncomputable def spec_Value.f : El (sgTy spec_Value.sg) → Option (El spec_Value.rs.ty) := fun x => match x with
 | ((a0, (a1, (a2, (a3, a4)))), a5) =>
 ((spec_Check.f (a0, a1, a2, a3, a4)).bind fun b0 =>
 (if ¬b0 = 0 then (some 1)
 else (if (↑(ByteArray.size a5) : Int) < a3 then (some 5)
  else (if (↑(ByteArray.size a5) : Int) > a4 then (some 5)
  else ((class_First.f (a1, a5)).bind fun b1 =>
   (if b1 ≥ 0 then (some 6)
   else (if a1 = 6 then ((tlv_Get.f a5).bind fun b2 =>
    (if ¬Prod.fst (Prod.snd b2) = 0 then (some 13)
    else (some 0)))
   else (some 0))))))))
noncomputable def spec_Value.c : Con := ⟨45, spec_Value.sg, spec_Value.rs, spec_Value.f⟩
theorem spec_Value.con : ConOk Tryz.prog spec_Value.c := walked (C := spec_Value.C) rfl (by kernel_rfl) (by kernel_rfl) (by kernel_rfl) rfl ⟨spec_Check.con, class_First.con, tlv_Get.con, trivial⟩ fun ⟨⟨a0, ⟨a1, ⟨a2, ⟨a3, a4⟩⟩⟩⟩, a5⟩ y h => ⟨0, (spec_Value.eq 0 a0 a1 a2 a3 a4 a5).trans h⟩
theorem spec_Value (no c fo mi ma : Int) (l : List UInt8) (hl : l.length ≤ 1000000000000) : spec_Value.f ((no, c, fo, mi, ma), sb l) = some (specV no c fo mi ma l) := by
 have e : (tlvG (l.length + 1) l 0 []).2.1 = tlvErr l := rfl
 have g := first_ge (inC c) l 0
 have k : class_First.f (c, sb l) = some (firstFrom (inC c) 0 l) := by
  unfold class_First.f
  rw [if_pos (by rw [size_sb]; omega)]; rfl
 simp only [spec_Value.f]
 rw [spec_Check, Option.bind_some, specV, size_sb]
 by_cases h1 : specE no c fo mi ma = 0
 ·rw [if_neg (not_not_intro h1), if_neg (not_not_intro h1)]
  by_cases h2 : (l.length : Int) < mi
  ·rw [if_pos h2, if_pos (.inl h2)]
  rw [if_neg h2]
  by_cases h3 : (l.length : Int) > ma
  ·rw [if_pos h3, if_pos (.inr h3)]
  rw [if_neg h3, if_neg (show ¬ ((l.length : Int) < mi ∨ ma < (l.length : Int)) by omega), k, Option.bind_some]
  by_cases h4 : l.all (inC c) = false
  ·rw [if_pos (g.2 h4), if_pos h4]
  rw [if_neg (fun e => h4 (g.1 e)), if_neg h4]
  by_cases h5 : c = 6
  ·rw [if_pos h5, tlv_Get l hl, Option.bind_some, e]
   by_cases h6 : tlvErr l = 0
   ·rw [if_neg (not_not_intro h6), if_neg (fun q => q.2 h6)]
   ·rw [if_pos h6, if_pos ⟨h5, h6⟩]
  ·rw [if_neg h5, if_neg (fun q => h5 q.1)]
 ·rw [if_pos h1, if_pos h1]
theorem decode_dig (l : List UInt8) (i : Nat) (a : UInt8) (m : List UInt8) (hd : l.drop i = a :: m) (h : dig a = true) : Utf8.decode (sb l) i = (a.toNat, 1) := by
 obtain ⟨hlt, ha, -⟩ := drop_cons hd
 have hs : i < (sb l).size := by rw [size_sb]; exact hlt
 have e : (sb l)[i]'hs = a := ha
 have := (dig_iff a).1 h
 rw [decode_ascii _ _ hs (by rw [e]; omega), e]
theorem decode_not (l : List UInt8) (i : Nat) (a : UInt8) (m : List UInt8) (hd : l.drop i = a :: m) (h : dig a = false) : (Utf8.decode (sb l) i).1 < 48 ∨ 57 < (Utf8.decode (sb l) i).1 := by
 obtain ⟨hlt, ha, -⟩ := drop_cons hd
 have hs : i < (sb l).size := by rw [size_sb]; exact hlt
 have e : (sb l)[i]'hs = a := ha
 by_cases hc : a.toNat < 128
 ·rw [decode_ascii _ _ hs (by rw [e]; exact hc), e]
  exact (dig_not a).1 h
 ·have := decode_high (sb l) i hs (by rw [e]; omega)
  omega
@[reducible] def digits_All.sg : List Shp := [.v (.str)]
@[reducible] def digits_All.rs : Rs := .one (.v (.bool))
@[reducible] noncomputable def digits_All.code : Code := Tryz.f96.body.getD .skip
noncomputable def digits_All.C : Ctx := ⟨tab, [], [], ⟨[(2, [6], 1)], []⟩⟩
noncomputable def digits_All.l0 (n : Nat) (v0 : ByteArray) (v1 : Nat) : Option Bool := run digits_All.C (finOf digits_All.C Tryz.f96 digits_All.rs) n (todoAt 2 digits_All.code) ⟨zJ :: zJ :: zJ :: zJ :: zJ :: zJ :: .ptr 0 0 :: zJ :: zK [], [[.itr v0 v1]], []⟩
theorem digits_All.l0_eq n v0 v1 : digits_All.l0 (n + 1) v0 v1 =
 (if v1 < ByteArray.size v0 then (if (↑((Utf8.decode v0 v1).1) : Int) < 48 then (some false)
 else (if (↑((Utf8.decode v0 v1).1) : Int) > 57 then (some false)
 else (digits_All.l0 n v0 (v1 + (Utf8.decode v0 v1).2))))
 else (some true)) := by kernel_rfl
theorem digits_All.eq (n : Nat) (a0 : ByteArray) : call digits_All.C Tryz.f96 digits_All.code digits_All.sg digits_All.rs n a0 =
 (digits_All.l0 n a0 0) := by kernel_rfl
def digits_All.f (s : ByteArray) : Option Bool := some ((bl s).all dig)
theorem digits_All (l : List UInt8) : digits_All.f (sb l) = some (l.all dig) := rfl
theorem digits_All_l (l : List UInt8) : ∀ (m : List UInt8) (i k : Nat), l.drop i = m → i + m.length = l.length → m.length < k → digits_All.l0 k (sb l) i = some (m.all dig)
 | [], i, k, hd, hl, hk => by
  obtain ⟨k, rfl⟩ : ∃ m, k = m + 1 := ⟨k - 1, by omega⟩
  simp at hl
  rw [digits_All.l0_eq, if_neg (by rw [size_sb]; omega)]; rfl
 | a :: m, i, k, hd, hl, hk => by
  obtain ⟨k, rfl⟩ : ∃ m, k = m + 1 := ⟨k - 1, by omega⟩
  simp only [List.length_cons] at hl hk
  obtain ⟨hlt, -, hd2⟩ := drop_cons hd
  rw [digits_All.l0_eq, if_pos (by rw [size_sb]; omega), List.all_cons]
  cases h : dig a with
  | true =>
   have hh := (dig_iff a).1 h
   rw [decode_dig l i a m hd h]
   dsimp only
   rw [if_neg (by omega), if_neg (by omega), digits_All_l l m (i + 1) k hd2 (by omega) (by omega), Bool.true_and]
  | false =>
   rcases decode_not l i a m hd h with h1 | h1
   ·rw [if_pos (by omega)]; rfl
   ·rw [if_neg (by omega), if_pos (by omega)]; rfl
noncomputable def digits_All.c : Con := ⟨96, digits_All.sg, digits_All.rs, digits_All.f⟩
theorem digits_All.con : ConOk Tryz.prog digits_All.c := walked (C := digits_All.C) rfl (by kernel_rfl) (by kernel_rfl) (by kernel_rfl) rfl trivial fun s y h => by
 obtain ⟨l, rfl⟩ := ex_sb s
 exact ⟨l.length + 1, by rw [digits_All.eq]; exact (digits_All_l l l 0 _ rfl (by simp) (by omega)).trans h⟩
theorem wrap32_nat {n : Nat} (h : n < 1000) : IntKind.wrap .i32 (n : Int) = n := by
 unfold IntKind.wrap
 show (if (true && decide ((n : Int) % 4294967296 ≥ 2147483648)) = true then (n : Int) % 4294967296 - 4294967296 else (n : Int) % 4294967296) = _
 simp only [Bool.true_and, decide_eq_true_eq]
 split <;> omega
@[reducible] def digits_Get.sg : List Shp := [.v (.str)]
@[reducible] def digits_Get.rs : Rs := .tup [.v (.int .i64), .v (.bool)]
@[reducible] noncomputable def digits_Get.code : Code := Tryz.f130.body.getD .skip
noncomputable def digits_Get.C : Ctx := ⟨tab, [digits_All.c], [], ⟨[(5, [4, 20], 1)], []⟩⟩
noncomputable def digits_Get.l0 (n : Nat) (v0 : Int) (v1 : ByteArray) (v2 : Nat) : Option ((Int × Bool)) := run digits_Get.C (finOf digits_Get.C Tryz.f130 digits_Get.rs) n (todoAt 5 digits_Get.code) ⟨zJ :: zJ :: zJ :: zJ :: .int .i64 v0 :: zJ :: zJ :: zJ :: zJ :: zJ :: zJ :: zJ :: zK (.ptr 0 0 :: zJ :: zJ :: zK []), [[.itr v1 v2]], []⟩
theorem digits_Get.l0_eq n v0 v1 v2 : digits_Get.l0 (n + 1) v0 v1 v2 =
 (if v2 < ByteArray.size v1 then (digits_Get.l0 n (IntKind.wrap .i64 (IntKind.wrap .i64 (10 * v0) + IntKind.wrap .i64 (IntKind.wrap .i32 ((↑((Utf8.decode v1 v2).1) : Int) - 48)))) v1 (v2 + (Utf8.decode v1 v2).2))
 else (some ((v0, true)))) := by kernel_rfl
theorem digits_Get.eq (n : Nat) (a0 : ByteArray) : call digits_Get.C Tryz.f130 digits_Get.code digits_Get.sg digits_Get.rs n a0 =
 (if a0 = ByteArray.mk #[] then (some ((0, false)))
 else (if (a0.size : Int) > 18 then (some ((0, false)))
 else ((digits_All.f a0).bind fun b0 =>
 (if ¬b0 = true then (some ((0, false)))
 else (digits_Get.l0 n 0 a0 0))))) := by kernel_rfl
def digits_Get.f (s : ByteArray) : Option (Int × Bool) := some (getNum (bl s))
theorem digits_Get (l : List UInt8) : digits_Get.f (sb l) = some (getNum l) := rfl
theorem digits_Get_l (l : List UInt8) (hl : l.length ≤ 18) (hd : l.all dig = true) : ∀ (m : List UInt8) (i k n : Nat), l.drop i = m → i + m.length = l.length → n < 10 ^ i → m.length < k → digits_Get.l0 k (n : Int) (sb l) i = some (((numFrom n m : Nat) : Int), true)
 | [], i, k, n, hm, hi, hn, hk => by
  obtain ⟨k, rfl⟩ : ∃ m, k = m + 1 := ⟨k - 1, by omega⟩
  simp at hi
  rw [digits_Get.l0_eq, if_neg (by rw [size_sb]; omega)]; rfl
 | a :: m, i, k, n, hm, hi, hn, hk => by
  obtain ⟨k, rfl⟩ : ∃ m, k = m + 1 := ⟨k - 1, by omega⟩
  simp only [List.length_cons] at hi hk
  obtain ⟨hlt, ha, hm2⟩ := drop_cons hm
  have da : dig a = true := by rw [← ha]; exact List.all_eq_true.1 hd _ (List.getElem_mem hlt)
  have hh := (dig_iff a).1 da
  have hp : 10 ^ i ≤ 10 ^ 17 := Nat.pow_le_pow_right (by decide) (by omega)
  have hp2 : (10 : Nat) ^ 17 = 100000000000000000 := by decide
  have hs : 10 ^ (i + 1) = 10 ^ i * 10 := Nat.pow_succ ..
  have e1 : IntKind.wrap .i64 (10 * (n : Int)) = ((10 * n : Nat) : Int) := by rw [show 10 * (n : Int) = ((10 * n : Nat) : Int) by omega]; exact wrap_nat (by omega)
  have e2 : IntKind.wrap .i32 ((a.toNat : Int) - 48) = ((a.toNat - 48 : Nat) : Int) := by rw [show (a.toNat : Int) - 48 = ((a.toNat - 48 : Nat) : Int) by omega]; exact wrap32_nat (by omega)
  have e3 : IntKind.wrap .i64 ((a.toNat - 48 : Nat) : Int) = ((a.toNat - 48 : Nat) : Int) := wrap_nat (by omega)
  have e4 : IntKind.wrap .i64 (((10 * n : Nat) : Int) + ((a.toNat - 48 : Nat) : Int)) = ((10 * n + (a.toNat - 48) : Nat) : Int) := by rw [show ((10 * n : Nat) : Int) + ((a.toNat - 48 : Nat) : Int) = ((10 * n + (a.toNat - 48) : Nat) : Int) by omega]; exact wrap_nat (by omega)
  rw [digits_Get.l0_eq, if_pos (by rw [size_sb]; omega), decode_dig l i a m hm da]
  dsimp only
  rw [e1, e2, e3, e4]
  exact digits_Get_l l hl hd m (i + 1) k _ hm2 (by omega) (by omega) (by omega)
theorem digits_Get.run (l : List UInt8) : call digits_Get.C Tryz.f130 digits_Get.code digits_Get.sg digits_Get.rs 20 (sb l) = some (getNum l) := by
 rw [digits_Get.eq]
 unfold getNum
 by_cases h0 : l = []
 ·subst h0
  rw [if_pos (show sb [] = ByteArray.mk #[] from rfl), if_pos (.inl (by decide))]
 ·have hne : ¬ sb l = ByteArray.mk #[] := fun e => h0 (sb_inj (b := []) e)
  have hlen : 0 < l.length := List.length_pos_iff.2 h0
  rw [if_neg hne]
  by_cases h1 : 18 < l.length
  ·rw [if_pos (by rw [size_sb]; omega), if_pos (.inr (.inl h1))]
  ·rw [if_neg (by rw [size_sb]; omega), digits_All, Option.bind_some]
   cases hd : l.all dig with
   | false => rw [if_pos (by decide), if_pos (.inr (.inr rfl))]
   | true =>
    have hn : ¬ (l.length < 1 ∨ 18 < l.length ∨ true = false) := by
     rintro (h | h | h)
     ·omega
     ·omega
     ·cases h
    rw [if_neg (by decide), if_neg hn]
    exact digits_Get_l l (by omega) hd l 0 20 0 rfl (by simp) (by decide) (by omega)
noncomputable def digits_Get.c : Con := ⟨130, digits_Get.sg, digits_Get.rs, digits_Get.f⟩
theorem digits_Get.con : ConOk Tryz.prog digits_Get.c := walked (C := digits_Get.C) rfl (by kernel_rfl) (by kernel_rfl) (by kernel_rfl) rfl ⟨digits_All.con, trivial⟩ fun s y h => by
 obtain ⟨l, rfl⟩ := ex_sb s
 exact ⟨20, (digits_Get.run l).trans h⟩
theorem pk100 : ∀ a b : Fin 10, bits BinOp.or IntKind.u8 (IntKind.wrap IntKind.u8 (IntKind.wrap IntKind.u8 (((48 + a.val : Nat) : Int) - 48) * 2 ^ 4)) (IntKind.wrap IntKind.u8 (((48 + b.val : Nat) : Int) - 48)) = ((16 * a.val + b.val : Nat) : Int) := by decide +kernel
theorem pk_dig {a b : UInt8} (ha : dig a = true) (hb : dig b = true) : bits BinOp.or IntKind.u8 (IntKind.wrap IntKind.u8 (IntKind.wrap IntKind.u8 ((a.toNat : Int) - 48) * 2 ^ 4)) (IntKind.wrap IntKind.u8 ((b.toNat : Int) - 48)) = ((16 * (a.toNat - 48) + (b.toNat - 48) : Nat) : Int) := by
 have h1 := (dig_iff a).1 ha
 have h2 := (dig_iff b).1 hb
 have := pk100 ⟨a.toNat - 48, by omega⟩ ⟨b.toNat - 48, by omega⟩
 simp only [show 48 + (a.toNat - 48) = a.toNat by omega, show 48 + (b.toNat - 48) = b.toNat by omega] at this
 exact this
@[reducible] def bcd_Put.sg : List Shp := [.v (.str)]
@[reducible] def bcd_Put.rs : Rs := .tup [.v (.str), .v (.bool)]
@[reducible] noncomputable def bcd_Put.code : Code := Tryz.f49.body.getD .skip
noncomputable def bcd_Put.C : Ctx := ⟨tab, [digits_All.c], [], ⟨[(7, [0, 4, 5], 0)], []⟩⟩
noncomputable def bcd_Put.l0 (n : Nat) (v0 : ByteArray) (v1 : List Int) (v2 : Int) : Option ((ByteArray × Bool)) := run bcd_Put.C (finOf bcd_Put.C Tryz.f49 bcd_Put.rs) n (todoAt 7 bcd_Put.code) ⟨.str v0 :: zJ :: zJ :: zJ :: .sl (some 0) (.int .u8) v1 :: .int .i64 v2 :: zK (zK (zK (zK (zK [])))), [], [true]⟩
theorem bcd_Put.l0_eq n v0 v1 v2 : bcd_Put.l0 (n + 1) v0 v1 v2 =
 (if v2 < (v0.size : Int) then ((bget v0 v2).bind fun b2 =>
 ((bget v0 (IntKind.wrap .i64 (v2 + 1))).bind fun b3 =>
 ((lcat 1 v1 [bits BinOp.or IntKind.u8 (IntKind.wrap .u8 (IntKind.wrap .u8 ((↑(UInt8.toNat b2) : Int) - 48) * 2 ^ 4)) (IntKind.wrap .u8 ((↑(UInt8.toNat b3) : Int) - 48))]).bind fun b4 =>
 (bcd_Put.l0 n v0 b4 (IntKind.wrap .i64 (v2 + 2))))))
 else (some ((bytesOf v1, true)))) := by kernel_rfl
theorem bcd_Put.eq (n : Nat) (a0 : ByteArray) : call bcd_Put.C Tryz.f49 bcd_Put.code bcd_Put.sg bcd_Put.rs n a0 =
 (if (a0.size : Int) > 999 then (some ((ByteArray.mk #[], false)))
 else ((digits_All.f a0).bind fun b0 =>
 (if ¬b0 = true then (some ((ByteArray.mk #[], false)))
 else (if ¬Int.tmod (a0.size : Int) 2 = 0 then ((scat (ByteArray.mk #[48]) a0).bind fun b1 =>
 (if (0 : Int) = 0 ∧ 0 ≤ IntKind.wrap .i64 (Int.tdiv (b1.size : Int) 2) ∧ 1 * IntKind.wrap .i64 (Int.tdiv (b1.size : Int) 2) ≤ 281474976710656 ∧ IntKind.wrap .i64 (Int.tdiv (b1.size : Int) 2) ≤ 9223372036854775807 then (bcd_Put.l0 n b1 [] 0)
 else none))
 else (if (0 : Int) = 0 ∧ 0 ≤ IntKind.wrap .i64 (Int.tdiv (a0.size : Int) 2) ∧ 1 * IntKind.wrap .i64 (Int.tdiv (a0.size : Int) 2) ≤ 281474976710656 ∧ IntKind.wrap .i64 (Int.tdiv (a0.size : Int) 2) ≤ 9223372036854775807 then (bcd_Put.l0 n a0 [] 0)
 else none))))) := by kernel_rfl
def bcd_Put.f (s : ByteArray) : Option (ByteArray × Bool) := some (sb (bcdPut (bl s)).1, (bcdPut (bl s)).2)
theorem bcd_Put (l : List UInt8) : bcd_Put.f (sb l) = some (sb (bcdPut l).1, (bcdPut l).2) := rfl
theorem bcd_Put_l (l : List UInt8) (hl : l.length ≤ 2000) (hd : l.all dig = true) : ∀ (m o : List UInt8) (k i : Nat), l.drop i = m → i + m.length = l.length → m.length % 2 = 0 → o.length ≤ i → m.length < k →
  bcd_Put.l0 k (sb l) (ints o) (i : Int) = some (sb (o ++ pack m), true)
 | [], o, k, i, hm, hi, h2, ho, hk => by
  obtain ⟨k, rfl⟩ : ∃ m, k = m + 1 := ⟨k - 1, by omega⟩
  have hi' : i = l.length := by simpa using hi
  rw [bcd_Put.l0_eq, if_neg (by rw [size_sb]; omega), str_ints]; simp [pack]
 | [a], o, k, i, hm, hi, h2, ho, hk => by simp at h2
 | a :: b :: m, o, k, i, hm, hi, h2, ho, hk => by
  obtain ⟨k, rfl⟩ : ∃ m, k = m + 1 := ⟨k - 1, by omega⟩
  obtain ⟨hlt, ha, hm1⟩ := drop_cons hm
  obtain ⟨hlt1, hb, hm2⟩ := drop_cons hm1
  have da : dig a = true := by rw [← ha]; exact List.all_eq_true.1 hd _ (List.getElem_mem hlt)
  have db : dig b = true := by rw [← hb]; exact List.all_eq_true.1 hd _ (List.getElem_mem hlt1)
  have hl3 : m.length + 2 = (a :: b :: m).length := rfl
  have hm4 : m.length % 2 = 0 := by omega
  have hi2 : i + 2 + m.length = l.length := by omega
  have ho2 : o.length + 1 ≤ i + 2 := by omega
  have hk2 : m.length < k := by omega
  have hv := (two_dig da db).1
  rw [bcd_Put.l0_eq, if_pos (by rw [size_sb]; omega), bget_drop hm, Option.bind_some, wrap_succ (by omega), bget_drop hm1, Option.bind_some, pk_dig da db, lcat_ok _ _ _ (by rw [ints_length]; simp only [List.length_cons, List.length_nil]; omega), Option.bind_some, ints_snoc o _ hv, wrap_id (by omega) (by omega)]
  have := bcd_Put_l l hl hd m (o ++ [u8 (16 * (a.toNat - 48) + (b.toNat - 48))]) k (i + 2) hm2 hi2 hm4 (by rw [List.length_append]; exact ho2) hk2
  rw [show (i : Int) + 2 = ((i + 2 : Nat) : Int) from rfl, this, pack]
  simp
theorem bcd_Put_j1 (l : List UInt8) (hl : l.length ≤ 1001) (hd : l.all dig = true) (h2 : l.length % 2 = 0) :
  (if (0 : Int) = 0 ∧ 0 ≤ IntKind.wrap IntKind.i64 (Int.tdiv (↑(ByteArray.size (sb l)) : Int) 2) ∧ 1 * IntKind.wrap IntKind.i64 (Int.tdiv (↑(ByteArray.size (sb l)) : Int) 2) ≤ 281474976710656 ∧ IntKind.wrap IntKind.i64 (Int.tdiv (↑(ByteArray.size (sb l)) : Int) 2) ≤ 9223372036854775807 then (bcd_Put.l0 1002 (sb l) [] 0) else none) = some (sb (pack l), true) := by
 have t1 : Int.tdiv (l.length : Int) 2 = ((l.length / 2 : Nat) : Int) := tdiv_nat l.length 2
 rw [size_sb, t1, wrap_nat (by omega), if_pos ⟨rfl, by omega, by omega, by omega⟩]
 exact bcd_Put_l l (by omega) hd l [] _ 0 rfl (by simp) h2 (Nat.le_refl _) (by omega)
theorem bcd_Put.run (l : List UInt8) : call bcd_Put.C Tryz.f49 bcd_Put.code bcd_Put.sg bcd_Put.rs 1002 (sb l) = some (sb (bcdPut l).1, (bcdPut l).2) := by
 rw [bcd_Put.eq]
 unfold bcdPut
 by_cases h1 : 999 < l.length
 ·rw [if_pos (by rw [size_sb]; omega), if_pos (.inl h1)]; rfl
 ·rw [if_neg (by rw [size_sb]; omega), digits_All, Option.bind_some]
  cases hd : l.all dig with
  | false => rw [if_pos (by decide), if_pos (.inr rfl)]; rfl
  | true =>
   have t2 : Int.tmod (l.length : Int) 2 = ((l.length % 2 : Nat) : Int) := tmod_nat l.length 2
   have hn : ¬ (999 < l.length ∨ true = false) := by simp; omega
   rw [if_neg (by decide), if_neg hn]
   by_cases h2 : l.length % 2 = 0
   ·have e : even0 l = l := if_pos h2
    rw [if_neg (by rw [size_sb, t2]; omega), e]
    exact bcd_Put_j1 l (by omega) hd h2
   ·have e : even0 l = u8 48 :: l := if_neg h2
    rw [if_pos (by rw [size_sb, t2]; omega), e, show (ByteArray.mk #[48]) = sb [u8 48] from rfl, scat_sb _ _ (by simp; omega), Option.bind_some]
    exact bcd_Put_j1 (u8 48 :: l) (by simp; omega) (by rw [List.all_cons, hd]; decide) (by rw [List.length_cons]; omega)
noncomputable def bcd_Put.c : Con := ⟨49, bcd_Put.sg, bcd_Put.rs, bcd_Put.f⟩
theorem bcd_Put.con : ConOk Tryz.prog bcd_Put.c := walked (C := bcd_Put.C) rfl (by kernel_rfl) (by kernel_rfl) (by kernel_rfl) rfl ⟨digits_All.con, trivial⟩ fun s y h => by
 obtain ⟨l, rfl⟩ := ex_sb s
 exact ⟨1002, (bcd_Put.run l).trans h⟩
@[reducible] def bcd_Size.sg : List Shp := [.v (.int .i64)]
@[reducible] def bcd_Size.rs : Rs := .one (.v (.int .i64))
@[reducible] noncomputable def bcd_Size.code : Code := Tryz.f92.body.getD .skip
noncomputable def bcd_Size.C : Ctx := ⟨tab, [], [], ⟨[], []⟩⟩
theorem bcd_Size.eq (n : Nat) (a0 : Int) : call bcd_Size.C Tryz.f92 bcd_Size.code bcd_Size.sg bcd_Size.rs n a0 =
 (if a0 < 1 then (some 0)
 else (some (IntKind.wrap .i64 (IntKind.wrap .i64 (Int.tdiv a0 2) + Int.tmod a0 2)))) := by kernel_rfl
noncomputable def bcd_Size.f : El (sgTy bcd_Size.sg) → Option (El bcd_Size.rs.ty) := fun x => match x with
 | a0 =>
 (if a0 < 1 then (some 0)
 else (some (IntKind.wrap IntKind.i64 (IntKind.wrap IntKind.i64 (Int.tdiv a0 2) + Int.tmod a0 2))))
noncomputable def bcd_Size.c : Con := ⟨92, bcd_Size.sg, bcd_Size.rs, bcd_Size.f⟩
theorem bcd_Size.con : ConOk Tryz.prog bcd_Size.c := walked (C := bcd_Size.C) rfl (by kernel_rfl) (by kernel_rfl) (by kernel_rfl) rfl trivial fun a0 y h => ⟨0, (bcd_Size.eq 0 a0).trans h⟩
theorem bcd_Size (n : Nat) (hn : n ≤ 1000000) : bcd_Size.f (n : Int) = some (((n + 1) / 2 : Nat) : Int) := by
 show (if (n : Int) < 1 then some 0 else some (IntKind.wrap IntKind.i64 (IntKind.wrap IntKind.i64 (Int.tdiv (n : Int) 2) + Int.tmod (n : Int) 2))) = _
 by_cases h : n < 1
 ·rw [if_pos (by omega)]
  have : n = 0 := by omega
  subst this; rfl
 ·have t1 : Int.tdiv (n : Int) 2 = ((n / 2 : Nat) : Int) := tdiv_nat n 2
  have t2 : Int.tmod (n : Int) 2 = ((n % 2 : Nat) : Int) := tmod_nat n 2
  rw [if_neg (by omega), t1, t2, wrap_nat (by omega), wrap_id (by omega) (by omega)]
  congr 1; omega
theorem nb256 : ∀ n : Fin 256, Int.fdiv ((n.val : Nat) : Int) (2 ^ 4) = ((n.val / 16 : Nat) : Int) ∧ bits BinOp.and IntKind.u8 ((n.val : Nat) : Int) 15 = ((n.val % 16 : Nat) : Int) ∧ IntKind.wrap IntKind.u8 (48 + ((n.val / 16 : Nat) : Int)) = ((48 + n.val / 16 : Nat) : Int) ∧ IntKind.wrap IntKind.u8 (48 + ((n.val % 16 : Nat) : Int)) = ((48 + n.val % 16 : Nat) : Int) := by decide +kernel
@[reducible] def bcd_Get.sg : List Shp := [.v (.str), .v (.int .i64)]
@[reducible] def bcd_Get.rs : Rs := .tup [.v (.str), .v (.int .i64), .v (.int .i64)]
@[reducible] noncomputable def bcd_Get.code : Code := Tryz.f93.body.getD .skip
noncomputable def bcd_Get.C : Ctx := ⟨tab, [bcd_Size.c], [], ⟨[(7, [0, 1, 7, 30, 31], 0)], []⟩⟩
noncomputable def bcd_Get.l0 (n : Nat) (v0 : ByteArray) (v1 : Int) (v2 : List Int) (v3 v4 : Int) : Option ((ByteArray × (Int × Int))) := run bcd_Get.C (finOf bcd_Get.C Tryz.f93 bcd_Get.rs) n (todoAt 7 bcd_Get.code) ⟨.str v0 :: .int .i64 v1 :: zJ :: zJ :: zJ :: zJ :: zJ :: .sl (some 0) (.int .u8) v2 :: zJ :: zJ :: zJ :: zJ :: zJ :: zJ :: zK (zK (.int .i64 v3 :: .int .i64 v4 :: zJ :: zJ :: zJ :: zK (zK (zK (zK (zK [])))))), [], [true]⟩
theorem bcd_Get.l0_eq n v0 v1 v2 v3 v4 : bcd_Get.l0 (n + 1) v0 v1 v2 v3 v4 =
 (if v4 < v3 then ((bget v0 v4).bind fun b2 =>
 ((bget v0 v4).bind fun b3 =>
 (if v4 = 0 then (if ¬Int.tmod v1 2 = 0 then (if ¬Int.fdiv (↑(UInt8.toNat b2) : Int) (2 ^ 4) = 0 then (some ((ByteArray.mk #[], 4, 0)))
 else (if Int.fdiv (↑(UInt8.toNat b2) : Int) (2 ^ 4) > 9 then (some ((ByteArray.mk #[], 3, v4)))
 else (if bits BinOp.and IntKind.u8 (↑(UInt8.toNat b3) : Int) 15 > 9 then (some ((ByteArray.mk #[], 3, v4)))
 else ((lcat 1 v2 [IntKind.wrap .u8 (48 + Int.fdiv (↑(UInt8.toNat b2) : Int) (2 ^ 4)), IntKind.wrap .u8 (48 + bits BinOp.and IntKind.u8 (↑(UInt8.toNat b3) : Int) 15)]).bind fun b4 =>
 (bcd_Get.l0 n v0 v1 b4 v3 (IntKind.wrap .i64 (v4 + 1)))))))
 else (if Int.fdiv (↑(UInt8.toNat b2) : Int) (2 ^ 4) > 9 then (some ((ByteArray.mk #[], 3, v4)))
 else (if bits BinOp.and IntKind.u8 (↑(UInt8.toNat b3) : Int) 15 > 9 then (some ((ByteArray.mk #[], 3, v4)))
 else ((lcat 1 v2 [IntKind.wrap .u8 (48 + Int.fdiv (↑(UInt8.toNat b2) : Int) (2 ^ 4)), IntKind.wrap .u8 (48 + bits BinOp.and IntKind.u8 (↑(UInt8.toNat b3) : Int) 15)]).bind fun b5 =>
 (bcd_Get.l0 n v0 v1 b5 v3 (IntKind.wrap .i64 (v4 + 1)))))))
 else (if Int.fdiv (↑(UInt8.toNat b2) : Int) (2 ^ 4) > 9 then (some ((ByteArray.mk #[], 3, v4)))
 else (if bits BinOp.and IntKind.u8 (↑(UInt8.toNat b3) : Int) 15 > 9 then (some ((ByteArray.mk #[], 3, v4)))
 else ((lcat 1 v2 [IntKind.wrap .u8 (48 + Int.fdiv (↑(UInt8.toNat b2) : Int) (2 ^ 4)), IntKind.wrap .u8 (48 + bits BinOp.and IntKind.u8 (↑(UInt8.toNat b3) : Int) 15)]).bind fun b6 =>
 (bcd_Get.l0 n v0 v1 b6 v3 (IntKind.wrap .i64 (v4 + 1)))))))))
 else ((lsub v2 (Int.tmod v1 2) (v2.length : Int)).bind fun b7 =>
 (some ((bytesOf b7, 0, 0))))) := by kernel_rfl
theorem bcd_Get.eq (n : Nat) (a0 : ByteArray) (a1 : Int) : call bcd_Get.C Tryz.f93 bcd_Get.code bcd_Get.sg bcd_Get.rs n (a0, a1) =
 (if a1 < 0 then (some ((ByteArray.mk #[], 1, 0)))
 else (if a1 > 999 then (some ((ByteArray.mk #[], 1, 0)))
 else ((bcd_Size.f a1).bind fun b0 =>
 (if (a0.size : Int) < b0 then (some ((ByteArray.mk #[], 2, (a0.size : Int))))
 else (if (0 : Int) = 0 ∧ 0 ≤ IntKind.wrap .i64 (a1 + 1) ∧ 1 * IntKind.wrap .i64 (a1 + 1) ≤ 281474976710656 ∧ IntKind.wrap .i64 (a1 + 1) ≤ 9223372036854775807 then ((bcd_Size.f a1).bind fun b1 =>
 (bcd_Get.l0 n a0 a1 [] b1 0))
 else none))))) := by kernel_rfl
def bcd_Get.f (x : ByteArray × Int) : Option (ByteArray × Int × Int) := some (sb (bcdGet (bl x.1) x.2).1, (bcdGet (bl x.1) x.2).2.1, (bcdGet (bl x.1) x.2).2.2)
theorem bcd_Get (b : List UInt8) (n : Int) : bcd_Get.f (sb b, n) = some (sb (bcdGet b n).1, (bcdGet b n).2.1, (bcdGet b n).2.2) := rfl
theorem bcd_Get_l (b : List UInt8) (n : Nat) (hn : n ≤ 999) (hb : (n + 1) / 2 ≤ b.length) : ∀ (m o : List UInt8) (k i : Nat), (b.take ((n + 1) / 2)).drop i = m → i + m.length = (n + 1) / 2 → o.length = 2 * i → m.length < k →
  bcd_Get.l0 k (sb b) (n : Int) (ints o) (((n + 1) / 2 : Nat) : Int) (i : Int) = some (sb (bcdFrom (decide (n % 2 = 1)) i o m).1, (bcdFrom (decide (n % 2 = 1)) i o m).2.1, (bcdFrom (decide (n % 2 = 1)) i o m).2.2)
 | [], o, k, i, hm, hi, ho, hk => by
  obtain ⟨k, rfl⟩ : ∃ m, k = m + 1 := ⟨k - 1, by omega⟩
  have hi' : i = (n + 1) / 2 := by simpa using hi
  have t2 : Int.tmod (n : Int) 2 = ((n % 2 : Nat) : Int) := tmod_nat n 2
  have hs : lsub (ints o) ((n % 2 : Nat) : Int) ((ints o).length : Int) = some ((ints o).drop (n % 2)) := by
   unfold lsub
   rw [if_pos ⟨by omega, by rw [ints_length]; omega, Int.le_refl _⟩, Int.toNat_natCast, Int.toNat_natCast, List.take_length]
  rw [bcd_Get.l0_eq, if_neg (by omega), t2, hs, Option.bind_some, ints_drop, str_ints, bcdFrom]
  by_cases h : n % 2 = 1
  ·rw [h]; rfl
  ·rw [show n % 2 = 0 by omega]; rfl
 | c :: m, o, k, i, hm, hi, ho, hk => by
  obtain ⟨k, rfl⟩ : ∃ m, k = m + 1 := ⟨k - 1, by omega⟩
  rw [List.length_cons] at hi hk
  obtain ⟨hlt, hc, hm1⟩ := drop_cons hm
  have hmb : b.drop i = c :: b.drop (i + 1) := by
   have hlt2 : i < b.length := by rw [List.length_take] at hlt; omega
   rw [List.drop_eq_getElem_cons hlt2]
   rw [List.getElem_take] at hc; rw [hc]
  have hi2 : i + 1 + m.length = (n + 1) / 2 := by omega
  have ho2 : o.length + 2 = 2 * (i + 1) := by omega
  have hcl := u8_lt c
  obtain ⟨g1, g2, g3, g4⟩ := nb256 ⟨c.toNat, u8_lt c⟩
  simp only at g1 g2 g3 g4
  have t2 : Int.tmod (n : Int) 2 = ((n % 2 : Nat) : Int) := tmod_nat n 2
  have ih := bcd_Get_l b n hn hb m (o ++ [u8 (48 + c.toNat / 16), u8 (48 + c.toNat % 16)]) k (i + 1) hm1 hi2 (by rw [List.length_append]; exact ho2) (by omega)
  have tail : ¬ (i = 0 ∧ decide (n % 2 = 1) = true ∧ c.toNat / 16 ≠ 0) → (if ((c.toNat / 16 : Nat) : Int) > 9 then (some ((ByteArray.mk #[], 3, (i : Int)))) else (if ((c.toNat % 16 : Nat) : Int) > 9 then (some ((ByteArray.mk #[], 3, (i : Int)))) else ((lcat 1 (ints o) [((48 + c.toNat / 16 : Nat) : Int), ((48 + c.toNat % 16 : Nat) : Int)]).bind fun b5 => (bcd_Get.l0 k (sb b) (n : Int) b5 (((n + 1) / 2 : Nat) : Int) (IntKind.wrap IntKind.i64 ((i : Int) + 1)))))) = some (sb (bcdFrom (decide (n % 2 = 1)) i o (c :: m)).1, (bcdFrom (decide (n % 2 = 1)) i o (c :: m)).2.1, (bcdFrom (decide (n % 2 = 1)) i o (c :: m)).2.2) := by
   intro hne
   rw [bcdFrom, if_neg hne]
   by_cases h1 : 9 < c.toNat / 16
   ·rw [if_pos (by omega), if_pos (.inl h1)]; rfl
   ·rw [if_neg (by omega)]
    by_cases h2 : 9 < c.toNat % 16
    ·rw [if_pos (by omega), if_pos (.inr h2)]; rfl
    ·rw [if_neg (by omega), if_neg (by omega), lcat_ok _ _ _ (by rw [ints_length]; simp only [List.length_cons, List.length_nil]; omega), Option.bind_some, ints_two o _ _ (by omega) (by omega), wrap_succ (by omega)]
     exact ih
  rw [bcd_Get.l0_eq, if_pos (by omega), bget_drop hmb, Option.bind_some, Option.bind_some, g1, g2, g3, g4, t2]
  by_cases h1 : i = 0
  ·rw [if_pos (by omega)]
   by_cases h2 : n % 2 = 1
   ·rw [if_pos (by omega)]
    by_cases h3 : c.toNat / 16 = 0
    ·rw [if_neg (by omega)]
     exact tail (fun h => h.2.2 h3)
    ·rw [if_pos (by omega), bcdFrom, if_pos ⟨h1, decide_eq_true h2, h3⟩]; rfl
   ·rw [if_neg (by omega)]
    exact tail (fun h => h2 (of_decide_eq_true h.2.1))
  ·rw [if_neg (by omega)]
   exact tail (fun h => h1 h.1)
theorem bcd_Get.run (b : List UInt8) (n : Int) : call bcd_Get.C Tryz.f93 bcd_Get.code bcd_Get.sg bcd_Get.rs 502 (sb b, n) = some (sb (bcdGet b n).1, (bcdGet b n).2.1, (bcdGet b n).2.2) := by
 rw [bcd_Get.eq]
 unfold bcdGet
 by_cases h1 : n < 0
 ·rw [if_pos h1, if_pos (.inl h1)]; rfl
 ·rw [if_neg h1]
  by_cases h2 : 999 < n
  ·rw [if_pos h2, if_pos (.inr h2)]; rfl
  ·obtain ⟨v, rfl⟩ := Int.eq_ofNat_of_zero_le (show 0 ≤ n by omega)
   have hn2 : ¬ ((v : Int) < 0 ∨ 999 < (v : Int)) := by omega
   rw [if_neg h2, if_neg hn2, Int.toNat_natCast, bcd_Size v (by omega), Option.bind_some, Option.bind_some, size_sb]
   by_cases h3 : b.length < (v + 1) / 2
   ·rw [if_pos (by omega), if_pos h3]; rfl
   ·rw [if_neg (by omega), if_neg h3, wrap_succ (by omega), if_pos ⟨rfl, by omega, by omega, by omega⟩]
    exact bcd_Get_l b v (by omega) (by omega) _ [] _ 0 rfl (by rw [List.length_take]; omega) rfl (by rw [List.length_take]; omega)
noncomputable def bcd_Get.c : Con := ⟨93, bcd_Get.sg, bcd_Get.rs, bcd_Get.f⟩
theorem bcd_Get.con : ConOk Tryz.prog bcd_Get.c := walked (C := bcd_Get.C) rfl (by kernel_rfl) (by kernel_rfl) (by kernel_rfl) rfl ⟨bcd_Size.con, trivial⟩ fun ⟨s, n⟩ y h => by
 obtain ⟨l, rfl⟩ := ex_sb s
 exact ⟨502, (bcd_Get.run l n).trans h⟩
end Go.Proofs.YtkaihbkfobiejaaGreatDoor.Xe
