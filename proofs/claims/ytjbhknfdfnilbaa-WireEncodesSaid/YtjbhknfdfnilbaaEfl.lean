/- What the program's functions on sets of fields answer. -/
import Derived.Test.YtjbhknfdfnilbaaNgd
import Derived.Test.YtjbhknfdfnilbaaXgh
namespace Go.Proofs.Ytjbhknfdfnilbaa.Xe
open Go Go.RowKit Go.Proofs.Ytjbhknfdfnilbaa.Sp
set_option linter.unusedVariables false
set_option linter.unusedSimpArgs false
set_option maxRecDepth 100000
theorem u64_pow (k : Nat) (h : k ≤ 63) : IntKind.wrap .u64 (1 * 2 ^ min k 64) = ((2 ^ k : Nat) : Int) := by
  have h1 : (2 : Nat) ^ k ≤ 2 ^ 63 := Nat.pow_le_pow_right (by decide) h
  rw [IntKind.wrap_u64, Int.one_mul, Nat.min_eq_left (by omega), show ((2 : Int) ^ k) = ((2 ^ k : Nat) : Int) by simp]
  generalize (2 : Nat) ^ k = y at *
  rw [show (2 : Nat) ^ 63 = 9223372036854775808 from rfl] at h1
  omega
/-! ### fields_bit -/
@[reducible] def fields_bit.sg : List Shp := [.v (.int .i64)]
@[reducible] def fields_bit.rs : Rs := .one (.a (.pair (.int .u64) (.int .u64)))
@[reducible] noncomputable def fields_bit.code : Code := Try.f97.body.getD .skip
noncomputable def fields_bit.C : Ctx := ⟨tab, [], [], ⟨[], []⟩⟩
theorem fields_bit.eq (n : Nat) (a0 : Int) : call fields_bit.C Try.f97 fields_bit.code fields_bit.sg fields_bit.rs n a0 =
  (if a0 < 1 then (some ((0, 0)))
  else (if a0 > 128 then (some ((0, 0)))
   else (if a0 ≤ 64 then (if IntKind.wrap IntKind.i64 (64 - a0) < 0 then none
     else (some ((IntKind.wrap IntKind.u64 (1 * 2 ^ min (Int.toNat (IntKind.wrap IntKind.i64 (64 - a0))) 64), 0))))
    else (if IntKind.wrap IntKind.i64 (128 - a0) < 0 then none
     else (some ((0, IntKind.wrap IntKind.u64 (1 * 2 ^ min (Int.toNat (IntKind.wrap IntKind.i64 (128 - a0))) 64)))))))) := by kernel_rfl
noncomputable def fields_bit.f : El (sgTy fields_bit.sg) → Option (El fields_bit.rs.ty) := fun x => match x with
  | a0 =>
  (if a0 < 1 then (some ((0, 0)))
  else (if a0 > 128 then (some ((0, 0)))
   else (if a0 ≤ 64 then (if IntKind.wrap IntKind.i64 (64 - a0) < 0 then none
     else (some ((IntKind.wrap IntKind.u64 (1 * 2 ^ min (Int.toNat (IntKind.wrap IntKind.i64 (64 - a0))) 64), 0))))
    else (if IntKind.wrap IntKind.i64 (128 - a0) < 0 then none
     else (some ((0, IntKind.wrap IntKind.u64 (1 * 2 ^ min (Int.toNat (IntKind.wrap IntKind.i64 (128 - a0))) 64))))))))
noncomputable def fields_bit.c : Con := ⟨97, fields_bit.sg, fields_bit.rs, fields_bit.f⟩
theorem fields_bit.con : ConOk Try.prog fields_bit.c := walked (C := fields_bit.C) rfl (by kernel_rfl) (by kernel_rfl) (by kernel_rfl) rfl trivial fun a0 y h => ⟨0, (fields_bit.eq 0 a0).trans h⟩
theorem fields_bit (n : Int) : fields_bit.f n = some ((fb1 n : Int), (fb2 n : Int)) := by
  simp only [fields_bit.f, fb1, fb2]
  by_cases h1 : n < 1
  · rw [if_pos h1, if_neg (by omega), if_neg (by omega)]; rfl
  rw [if_neg h1]
  by_cases h2 : n > 128
  · rw [if_pos h2, if_neg (by omega), if_neg (by omega)]; rfl
  rw [if_neg h2]
  by_cases h3 : n ≤ 64
  · rw [if_pos h3, wrap_id (by omega) (by omega), if_neg (by omega), u64_pow _ (by omega), if_pos (by omega), if_neg (by omega)]; rfl
  · rw [if_neg h3, wrap_id (by omega) (by omega), if_neg (by omega), u64_pow _ (by omega), if_neg (by omega), if_pos (by omega)]; rfl
/-! ### fields_Set_Either -/
@[reducible] def fields_Set_Either.sg : List Shp := [.a (.pair (.int .u64) (.int .u64)), .a (.pair (.int .u64) (.int .u64))]
@[reducible] def fields_Set_Either.rs : Rs := .one (.a (.pair (.int .u64) (.int .u64)))
@[reducible] noncomputable def fields_Set_Either.code : Code := Try.f96.body.getD .skip
noncomputable def fields_Set_Either.C : Ctx := ⟨tab, [], [], ⟨[], []⟩⟩
theorem fields_Set_Either.eq (n : Nat) (a0 : Int) (a1 : Int) (a2 : Int) (a3 : Int) : call fields_Set_Either.C Try.f96 fields_Set_Either.code fields_Set_Either.sg fields_Set_Either.rs n ((a0, a1), (a2, a3)) =
  (some ((bits BinOp.or IntKind.u64 a0 a2, bits BinOp.or IntKind.u64 a1 a3))) := by kernel_rfl
noncomputable def fields_Set_Either.f : El (sgTy fields_Set_Either.sg) → Option (El fields_Set_Either.rs.ty) := fun x => match x with
  | ((a0, a1), (a2, a3)) =>
  (some ((bits BinOp.or IntKind.u64 a0 a2, bits BinOp.or IntKind.u64 a1 a3)))
noncomputable def fields_Set_Either.c : Con := ⟨96, fields_Set_Either.sg, fields_Set_Either.rs, fields_Set_Either.f⟩
theorem fields_Set_Either.con : ConOk Try.prog fields_Set_Either.c := walked (C := fields_Set_Either.C) rfl (by kernel_rfl) (by kernel_rfl) (by kernel_rfl) rfl trivial fun ⟨⟨a0, a1⟩, ⟨a2, a3⟩⟩ y h => ⟨0, (fields_Set_Either.eq 0 a0 a1 a2 a3).trans h⟩
/-! ### fields_Bits -/
@[reducible] def fields_Bits.sg : List Shp := [.v (.int .u64), .v (.int .u64)]
@[reducible] def fields_Bits.rs : Rs := .one (.a (.pair (.int .u64) (.int .u64)))
@[reducible] noncomputable def fields_Bits.code : Code := Try.f63.body.getD .skip
noncomputable def fields_Bits.C : Ctx := ⟨tab, [], [], ⟨[], []⟩⟩
theorem fields_Bits.eq (n : Nat) (a0 : Int) (a1 : Int) : call fields_Bits.C Try.f63 fields_Bits.code fields_Bits.sg fields_Bits.rs n (a0, a1) =
  (some ((a0, a1))) := by kernel_rfl
noncomputable def fields_Bits.f : El (sgTy fields_Bits.sg) → Option (El fields_Bits.rs.ty) := fun x => match x with
  | (a0, a1) =>
  (some ((a0, a1)))
noncomputable def fields_Bits.c : Con := ⟨63, fields_Bits.sg, fields_Bits.rs, fields_Bits.f⟩
theorem fields_Bits.con : ConOk Try.prog fields_Bits.c := walked (C := fields_Bits.C) rfl (by kernel_rfl) (by kernel_rfl) (by kernel_rfl) rfl trivial fun ⟨a0, a1⟩ y h => ⟨0, (fields_Bits.eq 0 a0 a1).trans h⟩
theorem fields_Bits (x : Int × Int) : fields_Bits.f x = some x := rfl
theorem fields_Set_Either (h l a b : Nat) (h1 : h < 18446744073709551616) (h2 : l < 18446744073709551616) (h3 : a < 18446744073709551616) (h4 : b < 18446744073709551616) :
    fields_Set_Either.f (((h : Int), (l : Int)), ((a : Int), (b : Int))) = some (((h ||| a : Nat) : Int), ((l ||| b : Nat) : Int)) := by
  simp only [fields_Set_Either.f]
  rw [bits_or_u64_nat _ _ h1 h3, bits_or_u64_nat _ _ h2 h4]
/-! ### fields_Set_With -/
@[reducible] def fields_Set_With.sg : List Shp := [.a (.pair (.int .u64) (.int .u64)), .v (.int .i64)]
@[reducible] def fields_Set_With.rs : Rs := .one (.a (.pair (.int .u64) (.int .u64)))
@[reducible] noncomputable def fields_Set_With.code : Code := Try.f58.body.getD .skip
noncomputable def fields_Set_With.C : Ctx := ⟨tab, [fields_Set_Either.c, fields_bit.c], [], ⟨[], []⟩⟩
theorem fields_Set_With.eq (n : Nat) (a0 : Int) (a1 : Int) (a2 : Int) : call fields_Set_With.C Try.f58 fields_Set_With.code fields_Set_With.sg fields_Set_With.rs n ((a0, a1), a2) =
  ((fields_bit.f a2).bind fun b0 =>
  ((fields_Set_Either.f ((a0, a1), b0)).bind fun b1 =>
  (some b1))) := by kernel_rfl
noncomputable def fields_Set_With.f : El (sgTy fields_Set_With.sg) → Option (El fields_Set_With.rs.ty) := fun x => match x with
  | ((a0, a1), a2) =>
  ((fields_bit.f a2).bind fun b0 =>
  ((fields_Set_Either.f ((a0, a1), b0)).bind fun b1 =>
  (some b1)))
noncomputable def fields_Set_With.c : Con := ⟨58, fields_Set_With.sg, fields_Set_With.rs, fields_Set_With.f⟩
theorem fields_Set_With.con : ConOk Try.prog fields_Set_With.c := walked (C := fields_Set_With.C) rfl (by kernel_rfl) (by kernel_rfl) (by kernel_rfl) rfl ⟨fields_Set_Either.con, fields_bit.con, trivial⟩ fun ⟨⟨a0, a1⟩, a2⟩ y h => ⟨0, (fields_Set_With.eq 0 a0 a1 a2).trans h⟩
theorem fields_Set_With (h l : Nat) (h1 : h < 18446744073709551616) (h2 : l < 18446744073709551616) (n : Int) : fields_Set_With.f (((h : Int), (l : Int)), n) = some (((h ||| fb1 n : Nat) : Int), ((l ||| fb2 n : Nat) : Int)) := by
  simp only [fields_Set_With.f]
  rw [fields_bit, Option.bind_some, fields_Set_Either h l _ _ h1 h2 (fb1_lt n) (fb2_lt n), Option.bind_some]
end Go.Proofs.Ytjbhknfdfnilbaa.Xe
