/- What the program's functions on sets of fields answer: has, halves. -/
import Derived.Test.YtjbhknfdfnilbaaEfl
namespace Go.Proofs.Ytjbhknfdfnilbaa.Xe
open Go Go.RowKit Go.Proofs.Ytjbhknfdfnilbaa.Sp
set_option linter.unusedVariables false
set_option linter.unusedSimpArgs false
set_option maxRecDepth 100000
/-! ### fields_Set_Both -/
@[reducible] def fields_Set_Both.sg : List Shp := [.a (.pair (.int .u64) (.int .u64)), .a (.pair (.int .u64) (.int .u64))]
@[reducible] def fields_Set_Both.rs : Rs := .one (.a (.pair (.int .u64) (.int .u64)))
@[reducible] noncomputable def fields_Set_Both.code : Code := Try.f107.body.getD .skip
noncomputable def fields_Set_Both.C : Ctx := ⟨tab, [], [], ⟨[], []⟩⟩
theorem fields_Set_Both.eq (n : Nat) (a0 : Int) (a1 : Int) (a2 : Int) (a3 : Int) : call fields_Set_Both.C Try.f107 fields_Set_Both.code fields_Set_Both.sg fields_Set_Both.rs n ((a0, a1), (a2, a3)) =
  (some ((bits BinOp.and IntKind.u64 a0 a2, bits BinOp.and IntKind.u64 a1 a3))) := by kernel_rfl
noncomputable def fields_Set_Both.f : El (sgTy fields_Set_Both.sg) → Option (El fields_Set_Both.rs.ty) := fun x => match x with
  | ((a0, a1), (a2, a3)) =>
  (some ((bits BinOp.and IntKind.u64 a0 a2, bits BinOp.and IntKind.u64 a1 a3)))
noncomputable def fields_Set_Both.c : Con := ⟨107, fields_Set_Both.sg, fields_Set_Both.rs, fields_Set_Both.f⟩
theorem fields_Set_Both.con : ConOk Try.prog fields_Set_Both.c := walked (C := fields_Set_Both.C) rfl (by kernel_rfl) (by kernel_rfl) (by kernel_rfl) rfl trivial fun ⟨⟨a0, a1⟩, ⟨a2, a3⟩⟩ y h => ⟨0, (fields_Set_Both.eq 0 a0 a1 a2 a3).trans h⟩
/-! ### fields_Set_Halves -/
@[reducible] def fields_Set_Halves.sg : List Shp := [.a (.pair (.int .u64) (.int .u64))]
@[reducible] def fields_Set_Halves.rs : Rs := .tup [.v (.int .u64), .v (.int .u64)]
@[reducible] noncomputable def fields_Set_Halves.code : Code := Try.f80.body.getD .skip
noncomputable def fields_Set_Halves.C : Ctx := ⟨tab, [], [], ⟨[], []⟩⟩
theorem fields_Set_Halves.eq (n : Nat) (a0 : Int) (a1 : Int) : call fields_Set_Halves.C Try.f80 fields_Set_Halves.code fields_Set_Halves.sg fields_Set_Halves.rs n (a0, a1) =
  (some ((a0, a1))) := by kernel_rfl
noncomputable def fields_Set_Halves.f : El (sgTy fields_Set_Halves.sg) → Option (El fields_Set_Halves.rs.ty) := fun x => match x with
  | (a0, a1) =>
  (some ((a0, a1)))
noncomputable def fields_Set_Halves.c : Con := ⟨80, fields_Set_Halves.sg, fields_Set_Halves.rs, fields_Set_Halves.f⟩
theorem fields_Set_Halves.con : ConOk Try.prog fields_Set_Halves.c := walked (C := fields_Set_Halves.C) rfl (by kernel_rfl) (by kernel_rfl) (by kernel_rfl) rfl trivial fun ⟨a0, a1⟩ y h => ⟨0, (fields_Set_Halves.eq 0 a0 a1).trans h⟩
theorem fields_Set_Halves (x : Int × Int) : fields_Set_Halves.f x = some x := rfl
theorem fields_Set_Both (h l a b : Nat) (h1 : h < 18446744073709551616) (h2 : l < 18446744073709551616) (h3 : a < 18446744073709551616) (h4 : b < 18446744073709551616) :
    fields_Set_Both.f (((h : Int), (l : Int)), ((a : Int), (b : Int))) = some (((h &&& a : Nat) : Int), ((l &&& b : Nat) : Int)) := by
  simp only [fields_Set_Both.f]
  rw [bits_and_u64_nat _ _ h1 h3, bits_and_u64_nat _ _ h2 h4]
theorem and_zero (h k : Nat) : ((h &&& 2 ^ k : Nat) : Int) = 0 ↔ h.testBit k = false := by
  rw [and_pow]
  cases h.testBit k
  · simp
  · have := Nat.two_pow_pos k
    rw [Bool.toNat_true, Nat.one_mul]
    exact ⟨fun e => absurd (Int.ofNat_inj.1 e : 2 ^ k = 0) (Nat.ne_of_gt this), fun e => by cases e⟩
/-! ### fields_Set_Has -/
@[reducible] def fields_Set_Has.sg : List Shp := [.a (.pair (.int .u64) (.int .u64)), .v (.int .i64)]
@[reducible] def fields_Set_Has.rs : Rs := .one (.v (.bool))
@[reducible] noncomputable def fields_Set_Has.code : Code := Try.f79.body.getD .skip
noncomputable def fields_Set_Has.C : Ctx := ⟨tab, [fields_bit.c, fields_Set_Both.c], [], ⟨[], []⟩⟩
theorem fields_Set_Has.eq (n : Nat) (a0 : Int) (a1 : Int) (a2 : Int) : call fields_Set_Has.C Try.f79 fields_Set_Has.code fields_Set_Has.sg fields_Set_Has.rs n ((a0, a1), a2) =
  ((fields_bit.f a2).bind fun b0 =>
  ((fields_Set_Both.f ((a0, a1), b0)).bind fun b1 =>
  (some (decide ¬(Prod.fst b1 = 0 ∧ Prod.snd b1 = 0 ∧ True))))) := by kernel_rfl
noncomputable def fields_Set_Has.f : El (sgTy fields_Set_Has.sg) → Option (El fields_Set_Has.rs.ty) := fun x => match x with
  | ((a0, a1), a2) =>
  ((fields_bit.f a2).bind fun b0 =>
  ((fields_Set_Both.f ((a0, a1), b0)).bind fun b1 =>
  (some (decide ¬(Prod.fst b1 = 0 ∧ Prod.snd b1 = 0 ∧ True)))))
noncomputable def fields_Set_Has.c : Con := ⟨79, fields_Set_Has.sg, fields_Set_Has.rs, fields_Set_Has.f⟩
theorem fields_Set_Has.con : ConOk Try.prog fields_Set_Has.c := walked (C := fields_Set_Has.C) rfl (by kernel_rfl) (by kernel_rfl) (by kernel_rfl) rfl ⟨fields_bit.con, fields_Set_Both.con, trivial⟩ fun ⟨⟨a0, a1⟩, a2⟩ y h => ⟨0, (fields_Set_Has.eq 0 a0 a1 a2).trans h⟩
theorem fields_Set_Has (h l : Nat) (h1 : h < 18446744073709551616) (h2 : l < 18446744073709551616) (n : Int) : fields_Set_Has.f (((h : Int), (l : Int)), n) = some (fhas h l n) := by
  simp only [fields_Set_Has.f]
  rw [fields_bit, Option.bind_some, fields_Set_Both h l _ _ h1 h2 (fb1_lt n) (fb2_lt n), Option.bind_some]
  congr 1
  dsimp only
  unfold fb1 fb2 fhas
  by_cases c1 : n < 1 ∨ 128 < n
  · rw [if_pos c1, if_neg (by omega), if_neg (by omega)]; simp
  rw [if_neg c1]
  by_cases c2 : n ≤ 64
  · rw [if_pos c2, if_pos (by omega), if_neg (by omega), Nat.and_zero]
    have := and_zero h (64 - n).toNat
    cases hb : h.testBit (64 - n).toNat
    · have := this.2 hb; simp [this]
    · have : ¬ ((h &&& 2 ^ (64 - n).toNat : Nat) : Int) = 0 := fun e => by rw [this.1 e] at hb; cases hb
      exact decide_eq_true fun e => this e.1
  · rw [if_neg c2, if_neg (by omega), if_pos (by omega), Nat.and_zero]
    have := and_zero l (128 - n).toNat
    cases hb : l.testBit (128 - n).toNat
    · have := this.2 hb; simp [this]
    · have : ¬ ((l &&& 2 ^ (128 - n).toNat : Nat) : Int) = 0 := fun e => by rw [this.1 e] at hb; cases hb
      exact decide_eq_true fun e => this e.2.1
end Go.Proofs.Ytjbhknfdfnilbaa.Xe
