/- What the program's functions on sets of fields answer. -/
import Derived.Test.YtkhmdcllookjkaaNBit
import Derived.Test.YtkhmdcllookjkaaXgh
namespace Go.Proofs.Ytkhmdcllookjkaa.Xe
open Go Go.RowKit Go.Proofs.Ytkhmdcllookjkaa.Sp
set_option linter.unusedVariables false
set_option linter.unusedSimpArgs false
set_option maxRecDepth 100000
theorem u64_pow (k : Nat) (h : k ≤ 63) : IntKind.wrap .u64 (1 * 2 ^ min k 64) = ((2 ^ k : Nat) : Int) := by
  have h1 : (2 : Nat) ^ k ≤ 2 ^ 63 := Nat.pow_le_pow_right (by decide) h
  rw [IntKind.wrap_u64, Int.one_mul, Nat.min_eq_left (by omega), show ((2 : Int) ^ k) = ((2 ^ k : Nat) : Int) by simp]
  generalize (2 : Nat) ^ k = y at *
  rw [show (2 : Nat) ^ 63 = 9223372036854775808 from rfl] at h1
  omega
/-! ### fields_bit -/
@[reducible] def fields_bit.sg : List Shp := [.v (.int .i64)]
@[reducible] def fields_bit.rs : Rs := .one (.a (.pair (.int .u64) (.int .u64)))
@[reducible] noncomputable def fields_bit.code : Code := Try.f73.body.getD .skip
noncomputable def fields_bit.C : Ctx := ⟨tab, [], [], ⟨[], []⟩⟩
theorem fields_bit.eq (n : Nat) (a0 : Int) : call fields_bit.C Try.f73 fields_bit.code fields_bit.sg fields_bit.rs n a0 =
  (if a0 < 1 then (some ((0, 0)))
  else (if a0 > 128 then (some ((0, 0)))
   else (if a0 ≤ 64 then (if IntKind.wrap IntKind.i64 (64 - a0) < 0 then none
     else (some ((IntKind.wrap IntKind.u64 (1 * 2 ^ min (Int.toNat (IntKind.wrap IntKind.i64 (64 - a0))) 64), 0))))
    else (if IntKind.wrap IntKind.i64 (128 - a0) < 0 then none
     else (some ((0, IntKind.wrap IntKind.u64 (1 * 2 ^ min (Int.toNat (IntKind.wrap IntKind.i64 (128 - a0))) 64)))))))) := by kernel_rfl
noncomputable def fields_bit.f : El (sgTy fields_bit.sg) → Option (El fields_bit.rs.ty) := fun x => match x with
  | a0 =>
  (if a0 < 1 then (some ((0, 0)))
  else (if a0 > 128 then (some ((0, 0)))
   else (if a0 ≤ 64 then (if IntKind.wrap IntKind.i64 (64 - a0) < 0 then none
     else (some ((IntKind.wrap IntKind.u64 (1 * 2 ^ min (Int.toNat (IntKind.wrap IntKind.i64 (64 - a0))) 64), 0))))
    else (if IntKind.wrap IntKind.i64 (128 - a0) < 0 then none
     else (some ((0, IntKind.wrap IntKind.u64 (1 * 2 ^ min (Int.toNat (IntKind.wrap IntKind.i64 (128 - a0))) 64))))))))
noncomputable def fields_bit.c : Con := ⟨73, fields_bit.sg, fields_bit.rs, fields_bit.f⟩
theorem fields_bit.con : ConOk Try.prog fields_bit.c := walked (C := fields_bit.C) rfl (by kernel_rfl) (by kernel_rfl) (by kernel_rfl) rfl trivial fun a0 y h => ⟨0, (fields_bit.eq 0 a0).trans h⟩
theorem fields_bit (n : Int) : fields_bit.f n = some ((fb1 n : Int), (fb2 n : Int)) := by
  simp only [fields_bit.f, fb1, fb2]
  by_cases h1 : n < 1
  · rw [if_pos h1, if_neg (by omega), if_neg (by omega)]; rfl
  rw [if_neg h1]
  by_cases h2 : n > 128
  · rw [if_pos h2, if_neg (by omega), if_neg (by omega)]; rfl
  rw [if_neg h2]
  by_cases h3 : n ≤ 64
  · rw [if_pos h3, wrap_id (by omega) (by omega), if_neg (by omega), u64_pow _ (by omega), if_pos (by omega), if_neg (by omega)]; rfl
  · rw [if_neg h3, wrap_id (by omega) (by omega), if_neg (by omega), u64_pow _ (by omega), if_neg (by omega), if_pos (by omega)]; rfl
/-! ### fields_Set_Either -/
@[reducible] def fields_Set_Either.sg : List Shp := [.a (.pair (.int .u64) (.int .u64)), .a (.pair (.int .u64) (.int .u64))]
@[reducible] def fields_Set_Either.rs : Rs := .one (.a (.pair (.int .u64) (.int .u64)))
@[reducible] noncomputable def fields_Set_Either.code : Code := Try.f72.body.getD .skip
noncomputable def fields_Set_Either.C : Ctx := ⟨tab, [], [], ⟨[], []⟩⟩
theorem fields_Set_Either.eq (n : Nat) (a0 : Int) (a1 : Int) (a2 : Int) (a3 : Int) : call fields_Set_Either.C Try.f72 fields_Set_Either.code fields_Set_Either.sg fields_Set_Either.rs n ((a0, a1), (a2, a3)) =
  (some ((bits BinOp.or IntKind.u64 a0 a2, bits BinOp.or IntKind.u64 a1 a3))) := by kernel_rfl
noncomputable def fields_Set_Either.f : El (sgTy fields_Set_Either.sg) → Option (El fields_Set_Either.rs.ty) := fun x => match x with
  | ((a0, a1), (a2, a3)) =>
  (some ((bits BinOp.or IntKind.u64 a0 a2, bits BinOp.or IntKind.u64 a1 a3)))
noncomputable def fields_Set_Either.c : Con := ⟨72, fields_Set_Either.sg, fields_Set_Either.rs, fields_Set_Either.f⟩
theorem fields_Set_Either.con : ConOk Try.prog fields_Set_Either.c := walked (C := fields_Set_Either.C) rfl (by kernel_rfl) (by kernel_rfl) (by kernel_rfl) rfl trivial fun ⟨⟨a0, a1⟩, ⟨a2, a3⟩⟩ y h => ⟨0, (fields_Set_Either.eq 0 a0 a1 a2 a3).trans h⟩
/-! ### fields_Bits -/
@[reducible] def fields_Bits.sg : List Shp := [.v (.int .u64), .v (.int .u64)]
@[reducible] def fields_Bits.rs : Rs := .one (.a (.pair (.int .u64) (.int .u64)))
@[reducible] noncomputable def fields_Bits.code : Code := Try.f30.body.getD .skip
noncomputable def fields_Bits.C : Ctx := ⟨tab, [], [], ⟨[], []⟩⟩
theorem fields_Bits.eq (n : Nat) (a0 : Int) (a1 : Int) : call fields_Bits.C Try.f30 fields_Bits.code fields_Bits.sg fields_Bits.rs n (a0, a1) =
  (some ((a0, a1))) := by kernel_rfl
noncomputable def fields_Bits.f : El (sgTy fields_Bits.sg) → Option (El fields_Bits.rs.ty) := fun x => match x with
  | (a0, a1) =>
  (some ((a0, a1)))
noncomputable def fields_Bits.c : Con := ⟨30, fields_Bits.sg, fields_Bits.rs, fields_Bits.f⟩
theorem fields_Bits.con : ConOk Try.prog fields_Bits.c := walked (C := fields_Bits.C) rfl (by kernel_rfl) (by kernel_rfl) (by kernel_rfl) rfl trivial fun ⟨a0, a1⟩ y h => ⟨0, (fields_Bits.eq 0 a0 a1).trans h⟩
theorem fields_Bits (x : Int × Int) : fields_Bits.f x = some x := rfl
theorem fields_Set_Either (h l a b : Nat) (h1 : h < 18446744073709551616) (h2 : l < 18446744073709551616) (h3 : a < 18446744073709551616) (h4 : b < 18446744073709551616) :
    fields_Set_Either.f (((h : Int), (l : Int)), ((a : Int), (b : Int))) = some (((h ||| a : Nat) : Int), ((l ||| b : Nat) : Int)) := by
  simp only [fields_Set_Either.f]
  rw [bits_or_u64_nat _ _ h1 h3, bits_or_u64_nat _ _ h2 h4]
/-! ### fields_Set_With -/
@[reducible] def fields_Set_With.sg : List Shp := [.a (.pair (.int .u64) (.int .u64)), .v (.int .i64)]
@[reducible] def fields_Set_With.rs : Rs := .one (.a (.pair (.int .u64) (.int .u64)))
@[reducible] noncomputable def fields_Set_With.code : Code := Try.f55.body.getD .skip
noncomputable def fields_Set_With.C : Ctx := ⟨tab, [fields_Set_Either.c, fields_bit.c], [], ⟨[], []⟩⟩
theorem fields_Set_With.eq (n : Nat) (a0 : Int) (a1 : Int) (a2 : Int) : call fields_Set_With.C Try.f55 fields_Set_With.code fields_Set_With.sg fields_Set_With.rs n ((a0, a1), a2) =
  ((fields_bit.f a2).bind fun b0 =>
  ((fields_Set_Either.f ((a0, a1), b0)).bind fun b1 =>
  (some b1))) := by kernel_rfl
noncomputable def fields_Set_With.f : El (sgTy fields_Set_With.sg) → Option (El fields_Set_With.rs.ty) := fun x => match x with
  | ((a0, a1), a2) =>
  ((fields_bit.f a2).bind fun b0 =>
  ((fields_Set_Either.f ((a0, a1), b0)).bind fun b1 =>
  (some b1)))
noncomputable def fields_Set_With.c : Con := ⟨55, fields_Set_With.sg, fields_Set_With.rs, fields_Set_With.f⟩
theorem fields_Set_With.con : ConOk Try.prog fields_Set_With.c := walked (C := fields_Set_With.C) rfl (by kernel_rfl) (by kernel_rfl) (by kernel_rfl) rfl ⟨fields_Set_Either.con, fields_bit.con, trivial⟩ fun ⟨⟨a0, a1⟩, a2⟩ y h => ⟨0, (fields_Set_With.eq 0 a0 a1 a2).trans h⟩
theorem fields_Set_With (h l : Nat) (h1 : h < 18446744073709551616) (h2 : l < 18446744073709551616) (n : Int) : fields_Set_With.f (((h : Int), (l : Int)), n) = some (((h ||| fb1 n : Nat) : Int), ((l ||| fb2 n : Nat) : Int)) := by
  simp only [fields_Set_With.f]
  rw [fields_bit, Option.bind_some, fields_Set_Either h l _ _ h1 h2 (fb1_lt n) (fb2_lt n), Option.bind_some]
/-! ### fields_Of -/
@[reducible] def fields_Of.sg : List Shp := [.v (.sl (.int .i64))]
@[reducible] def fields_Of.rs : Rs := .one (.a (.pair (.int .u64) (.int .u64)))
@[reducible] noncomputable def fields_Of.code : Code := Try.f43.body.getD .skip
noncomputable def fields_Of.C : Ctx := ⟨tab, [fields_Set_With.c], [], ⟨[(3, [2, 3, 6, 7, 8], 2)], []⟩⟩
noncomputable def fields_Of.l0 (n : Nat) (v0 : List Int) (v1 : Int) (v2 : Int) (v3 : Int) (v4 : Int) (v5 : Int) (v6 : Int) : Option ((Int × Int)) := run fields_Of.C (finOf fields_Of.C Try.f43 fields_Of.rs) n (todoAt 3 fields_Of.code) ⟨[.junk, .junk, .ptr 0 0, .ptr 1 0, .junk, .junk, .sl none (.int .i64) v0, .int .i64 v1, .int .i64 v2, .junk, .junk, .junk, .junk, .junk, .junk, .junk, .junk], [[.int .u64 v3, .int .u64 v4], [.int .u64 v5, .int .u64 v6]], []⟩
-- the loop at region 3
theorem fields_Of.l0_eq (n : Nat) (v0 : List Int) (v1 : Int) (v2 : Int) (v3 : Int) (v4 : Int) (v5 : Int) (v6 : Int) : fields_Of.l0 (n + 1) v0 v1 v2 v3 v4 v5 v6 =
  (if v2 < v1 then ((lget v0 v2).bind fun b0 =>
   ((fields_Set_With.f ((v5, v6), b0)).bind fun b1 =>
   (fields_Of.l0 n v0 v1 (IntKind.wrap IntKind.i64 (v2 + 1)) v3 v4 (Prod.fst b1) (Prod.snd b1))))
  else (some ((v5, v6)))) := by kernel_rfl
theorem fields_Of.eq (n : Nat) (a0 : List Int) : call fields_Of.C Try.f43 fields_Of.code fields_Of.sg fields_Of.rs n a0 =
  (fields_Of.l0 n a0 ((↑(List.length a0) : Int)) 0 0 0 0 0) := by kernel_rfl
def fields_Of.f (l : List Int) : Option (Int × Int) := if l.length ≤ 140737488351232 then some (((withAll l (0, 0)).1 : Int), ((withAll l (0, 0)).2 : Int)) else none
theorem fields_Of (l : List Int) (hl : l.length ≤ 140737488351232) : fields_Of.f l = some (((withAll l (0, 0)).1 : Int), ((withAll l (0, 0)).2 : Int)) := if_pos hl
theorem fields_Of_l (l : List Int) (hl : l.length ≤ 140737488351232) (a b : Int) : ∀ (m : List Int) (k i h g : Nat), l.drop i = m → i + m.length = l.length → h < 18446744073709551616 → g < 18446744073709551616 → m.length < k →
    fields_Of.l0 k l (l.length : Int) (i : Int) a b (h : Int) (g : Int) = some (((withAll m (h, g)).1 : Int), ((withAll m (h, g)).2 : Int))
  | [], k, i, h, g, hd, hi, h1, h2, hk => by
    obtain ⟨k, rfl⟩ : ∃ m, k = m + 1 := ⟨k - 1, by omega⟩
    have hi' : i = l.length := by simpa using hi
    rw [fields_Of.l0_eq, if_neg (by omega)]; rfl
  | n :: m, k, i, h, g, hd, hi, h1, h2, hk => by
    obtain ⟨k, rfl⟩ : ∃ m, k = m + 1 := ⟨k - 1, by omega⟩
    have hi' : i + (m.length + 1) = l.length := by simpa using hi
    have hk' : m.length < k := by simp at hk; omega
    have hlt : i < l.length := by omega
    have hd' := hd
    rw [List.drop_eq_getElem_cons hlt] at hd'
    obtain ⟨e1, e2⟩ := List.cons.inj hd'
    rw [fields_Of.l0_eq, if_pos (by omega), lget_nat _ _ hlt, Option.bind_some, fields_Set_With h g h1 h2, Option.bind_some, wrap_succ (by omega), e1, withAll]
    exact fields_Of_l l hl a b m k (i + 1) _ _ e2 (by omega) (Nat.or_lt_two_pow (n := 64) h1 (fb1_lt n)) (Nat.or_lt_two_pow (n := 64) h2 (fb2_lt n)) hk'
noncomputable def fields_Of.c : Con := ⟨43, fields_Of.sg, fields_Of.rs, fields_Of.f⟩
theorem fields_Of.con : ConOk Try.prog fields_Of.c := walked (C := fields_Of.C) rfl (by kernel_rfl) (by kernel_rfl) (by kernel_rfl) rfl ⟨fields_Set_With.con, trivial⟩ fun l y h => by
  have h : fields_Of.f l = some y := h
  unfold fields_Of.f at h
  split at h
  · rename_i hc
    refine ⟨l.length + 1, ?_⟩
    rw [fields_Of.eq]
    exact (fields_Of_l l hc 0 0 l _ 0 0 0 rfl (by simp) (by decide) (by decide) (by omega)).trans h
  · cases h
end Go.Proofs.Ytkhmdcllookjkaa.Xe
