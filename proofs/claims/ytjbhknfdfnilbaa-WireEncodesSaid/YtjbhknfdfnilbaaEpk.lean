/- What the program's small functions on styles and forms answer. -/
import Derived.Test.YtjbhknfdfnilbaaEsp
import Derived.Test.YtjbhknfdfnilbaaNgb
namespace Go.Proofs.Ytjbhknfdfnilbaa.Xe
open Go Go.RowKit Go.Proofs.Ytjbhknfdfnilbaa.Sp
set_option linter.unusedVariables false
set_option linter.unusedSimpArgs false
set_option maxRecDepth 100000
/-! ### prefix_known -/
@[reducible] def prefix_known.sg : List Shp := [.v (.int .i64), .v (.int .i64)]
@[reducible] def prefix_known.rs : Rs := .one (.v (.bool))
@[reducible] noncomputable def prefix_known.code : Code := Try.f93.body.getD .skip
noncomputable def prefix_known.C : Ctx := ⟨tab, [prefix_width.c], [], ⟨[], []⟩⟩
theorem prefix_known.eq (n : Nat) (a0 : Int) (a1 : Int) : call prefix_known.C Try.f93 prefix_known.code prefix_known.sg prefix_known.rs n (a0, a1) =
  (if a0 = 1 then ((prefix_width.f a1).bind fun b0 =>
   (some (decide (b0 > 0))))
  else (if a0 = 2 then ((prefix_width.f a1).bind fun b1 =>
    (some (decide (b1 > 0))))
   else (some false))) := by kernel_rfl
noncomputable def prefix_known.f : El (sgTy prefix_known.sg) → Option (El prefix_known.rs.ty) := fun x => match x with
  | (a0, a1) =>
  (if a0 = 1 then ((prefix_width.f a1).bind fun b0 =>
   (some (decide (b0 > 0))))
  else (if a0 = 2 then ((prefix_width.f a1).bind fun b1 =>
    (some (decide (b1 > 0))))
   else (some false)))
noncomputable def prefix_known.c : Con := ⟨93, prefix_known.sg, prefix_known.rs, prefix_known.f⟩
theorem prefix_known.con : ConOk Try.prog prefix_known.c := walked (C := prefix_known.C) rfl (by kernel_rfl) (by kernel_rfl) (by kernel_rfl) rfl ⟨prefix_width.con, trivial⟩ fun ⟨a0, a1⟩ y h => ⟨0, (prefix_known.eq 0 a0 a1).trans h⟩
theorem prefix_known (s f : Int) : prefix_known.f (s, f) = some (preOk s f) := by
  simp only [prefix_known.f, prefix_width.f, Option.bind_some, preOk]
  by_cases h : s = 1
  · rw [if_pos h]
    congr 1; rw [decide_eq_decide]; split <;> omega
  · rw [if_neg h]
    by_cases h' : s = 2
    · rw [if_pos h']
      congr 1; rw [decide_eq_decide]; split <;> omega
    · rw [if_neg h', decide_eq_false (by omega)]
/-! ### cell_known -/
@[reducible] def cell_known.sg : List Shp := [.v (.int .i64)]
@[reducible] def cell_known.rs : Rs := .one (.v (.bool))
@[reducible] noncomputable def cell_known.code : Code := Try.f53.body.getD .skip
noncomputable def cell_known.C : Ctx := ⟨tab, [], [], ⟨[], []⟩⟩
theorem cell_known.eq (n : Nat) (a0 : Int) : call cell_known.C Try.f53 cell_known.code cell_known.sg cell_known.rs n a0 =
  (if a0 = 1 then (some true)
  else (some (decide (a0 = 2)))) := by kernel_rfl
noncomputable def cell_known.f : El (sgTy cell_known.sg) → Option (El cell_known.rs.ty) := fun x => match x with
  | a0 =>
  (if a0 = 1 then (some true)
  else (some (decide (a0 = 2))))
noncomputable def cell_known.c : Con := ⟨53, cell_known.sg, cell_known.rs, cell_known.f⟩
theorem cell_known.con : ConOk Try.prog cell_known.c := walked (C := cell_known.C) rfl (by kernel_rfl) (by kernel_rfl) (by kernel_rfl) rfl trivial fun a0 y h => ⟨0, (cell_known.eq 0 a0).trans h⟩
theorem cell_known (st : Int) : cell_known.f st = some (decide (st = 1 ∨ st = 2)) := by
  simp only [cell_known.f]
  by_cases h1 : st = 1
  · simp [h1]
  · by_cases h2 : st = 2 <;> simp [h1, h2]
/-! ### cell_how -/
@[reducible] def cell_how.sg : List Shp := [.v (.int .i64), .v (.int .i64)]
@[reducible] def cell_how.rs : Rs := .one (.v (.int .i64))
@[reducible] noncomputable def cell_how.code : Code := Try.f56.body.getD .skip
noncomputable def cell_how.C : Ctx := ⟨tab, [], [], ⟨[], []⟩⟩
theorem cell_how.eq (n : Nat) (a0 : Int) (a1 : Int) : call cell_how.C Try.f56 cell_how.code cell_how.sg cell_how.rs n (a0, a1) =
  (if a0 = 2 then (if a1 = 1 then (some 1)
   else (if a0 = 1 then (if a1 = 5 then (some 2)
     else (if a1 = 6 then (some 2)
      else (some 0)))
    else (some 0)))
  else (if a0 = 1 then (if a1 = 5 then (some 2)
    else (if a1 = 6 then (some 2)
     else (some 0)))
   else (some 0))) := by kernel_rfl
noncomputable def cell_how.f : El (sgTy cell_how.sg) → Option (El cell_how.rs.ty) := fun x => match x with
  | (a0, a1) =>
  (if a0 = 2 then (if a1 = 1 then (some 1)
   else (if a0 = 1 then (if a1 = 5 then (some 2)
     else (if a1 = 6 then (some 2)
      else (some 0)))
    else (some 0)))
  else (if a0 = 1 then (if a1 = 5 then (some 2)
    else (if a1 = 6 then (some 2)
     else (some 0)))
   else (some 0)))
noncomputable def cell_how.c : Con := ⟨56, cell_how.sg, cell_how.rs, cell_how.f⟩
theorem cell_how.con : ConOk Try.prog cell_how.c := walked (C := cell_how.C) rfl (by kernel_rfl) (by kernel_rfl) (by kernel_rfl) rfl trivial fun ⟨a0, a1⟩ y h => ⟨0, (cell_how.eq 0 a0 a1).trans h⟩
theorem cell_how (st c : Int) : cell_how.f (st, c) = some (if st = 2 ∧ c = 1 then 1 else if st = 1 ∧ (c = 5 ∨ c = 6) then 2 else 0) := by
  simp only [cell_how.f]
  by_cases h1 : st = 2
  · subst h1
    by_cases h2 : c = 1 <;> simp [h2]
  · by_cases h3 : st = 1
    · subst h3
      by_cases h4 : c = 5
      · simp [h4]
      · by_cases h5 : c = 6 <;> simp [h4, h5]
    · simp [h1, h3]
end Go.Proofs.Ytjbhknfdfnilbaa.Xe
