/- What the program's functions on specs answer: the check. -/
import Derived.Test.YtjbhknfdfnilbaaEcl
import Derived.Test.YtjbhknfdfnilbaaNgb
import Derived.Test.YtjbhknfdfnilbaaNgc
namespace Go.Proofs.Ytjbhknfdfnilbaa.Xe
open Go Go.RowKit Go.Proofs.Ytjbhknfdfnilbaa.Sp
set_option linter.unusedVariables false
set_option linter.unusedSimpArgs false
/-! ### prefix_width -/
@[reducible] def prefix_width.sg : List Shp := [.v (.int .i64)]
@[reducible] def prefix_width.rs : Rs := .one (.v (.int .i64))
@[reducible] noncomputable def prefix_width.code : Code := Try.f95.body.getD .skip
noncomputable def prefix_width.C : Ctx := ⟨tab, [], [], ⟨[], []⟩⟩
theorem prefix_width.eq (n : Nat) (a0 : Int) : call prefix_width.C Try.f95 prefix_width.code prefix_width.sg prefix_width.rs n a0 =
  (if a0 = 2 then (some 2)
  else (if a0 = 3 then (some 3)
   else (some 0))) := by kernel_rfl
def prefix_width.f (f : Int) : Option Int := some (if f = 2 ∨ f = 3 then f else 0)
noncomputable def prefix_width.c : Con := ⟨95, prefix_width.sg, prefix_width.rs, prefix_width.f⟩
theorem prefix_width.con : ConOk Try.prog prefix_width.c := walked (C := prefix_width.C) rfl (by kernel_rfl) (by kernel_rfl) (by kernel_rfl) rfl trivial fun (f : Int) y h => ⟨0, by
  rw [prefix_width.eq, ← h, prefix_width.f]
  by_cases h2 : f = 2
  · simp [h2]
  · by_cases h3 : f = 3 <;> simp [h2, h3]⟩
/-! ### prefix_Most -/
@[reducible] def prefix_Most.sg : List Shp := [.v (.int .i64)]
@[reducible] def prefix_Most.rs : Rs := .one (.v (.int .i64))
@[reducible] noncomputable def prefix_Most.code : Code := Try.f100.body.getD .skip
noncomputable def prefix_Most.C : Ctx := ⟨tab, [prefix_width.c], [], ⟨[(3, [3, 5, 6], 0)], []⟩⟩
noncomputable def prefix_Most.l0 (n : Nat) (v0 : Int) (v1 : Int) (v2 : Int) : Option Int := run prefix_Most.C (finOf prefix_Most.C Try.f100 prefix_Most.rs) n (todoAt 3 prefix_Most.code) ⟨[.junk, .junk, .junk, .int .i64 v0, .junk, .int .i64 v1, .int .i64 v2, .junk, .junk, .junk, .junk, .junk, .junk], [], []⟩
-- the loop at region 3
theorem prefix_Most.l0_eq (n : Nat) (v0 : Int) (v1 : Int) (v2 : Int) : prefix_Most.l0 (n + 1) v0 v1 v2 =
  (if v2 < v1 then (prefix_Most.l0 n (IntKind.wrap IntKind.i64 (IntKind.wrap IntKind.i64 (10 * v0) + 9)) v1 (IntKind.wrap IntKind.i64 (v2 + 1)))
  else (some v0)) := by kernel_rfl
theorem prefix_Most.eq (n : Nat) (a0 : Int) : call prefix_Most.C Try.f100 prefix_Most.code prefix_Most.sg prefix_Most.rs n a0 =
  ((prefix_width.f a0).bind fun b0 =>
  (prefix_Most.l0 n 0 b0 0)) := by kernel_rfl
def prefix_Most.f (f : Int) : Option Int := some (preMost f)
noncomputable def prefix_Most.c : Con := ⟨100, prefix_Most.sg, prefix_Most.rs, prefix_Most.f⟩
theorem prefix_Most.con : ConOk Try.prog prefix_Most.c := walked (C := prefix_Most.C) rfl (by kernel_rfl) (by kernel_rfl) (by kernel_rfl) rfl ⟨prefix_width.con, trivial⟩ fun (f : Int) y h => ⟨9, by
  rw [prefix_Most.eq, ← h, prefix_width.f, prefix_Most.f, Option.bind_some]
  unfold preMost
  by_cases h2 : f = 2
  · subst h2; kernel_rfl
  · by_cases h3 : f = 3
    · subst h3; kernel_rfl
    · rw [if_neg (fun h => h.elim h2 h3), if_neg h2, if_neg h3]; kernel_rfl⟩
/-! ### spec_Check -/
@[reducible] def spec_Check.sg : List Shp := [.a (.pair (.int .i64) (.pair (.int .i64) (.pair (.int .i64) (.pair (.int .i64) (.int .i64)))))]
@[reducible] def spec_Check.rs : Rs := .one (.v (.int .i64))
@[reducible] noncomputable def spec_Check.code : Code := Try.f64.body.getD .skip
noncomputable def spec_Check.C : Ctx := ⟨tab, [class_Known.c, prefix_Most.c], [], ⟨[], []⟩⟩
theorem spec_Check.eq (n : Nat) (a0 : Int) (a1 : Int) (a2 : Int) (a3 : Int) (a4 : Int) : call spec_Check.C Try.f64 spec_Check.code spec_Check.sg spec_Check.rs n (a0, (a1, (a2, (a3, a4)))) =
  (if a0 < 2 then (some 1)
  else (if a0 > 128 then (some 1)
   else ((class_Known.f a1).bind fun b0 =>
    (if ¬b0 = true then (some 6)
    else (if a2 < 1 then (some 3)
     else (if a2 > 3 then (some 3)
      else (if a3 < 1 then (some 5)
       else (if a3 > a4 then (some 5)
        else (if a4 > 999 then (some 5)
         else (if a2 = 1 then (if ¬a3 = a4 then (some 5)
           else (if ¬a2 = 1 then ((prefix_Most.f a2).bind fun b1 =>
             (if a4 > b1 then (some 5)
             else (if a2 = 1 then (if a1 = 6 then (some 13)
               else (some 0))
              else (some 0))))
            else (if a2 = 1 then (if a1 = 6 then (some 13)
              else (some 0))
             else (some 0))))
          else (if ¬a2 = 1 then ((prefix_Most.f a2).bind fun b2 =>
            (if a4 > b2 then (some 5)
            else (if a2 = 1 then (if a1 = 6 then (some 13)
              else (some 0))
             else (some 0))))
           else (if a2 = 1 then (if a1 = 6 then (some 13)
             else (some 0))
            else (some 0))))))))))))) := by kernel_rfl
def spec_Check.f (x : Int × Int × Int × Int × Int) : Option Int := some (specE x.1 x.2.1 x.2.2.1 x.2.2.2.1 x.2.2.2.2)
theorem spec_Check.run (no c fo mi ma : Int) : call spec_Check.C Try.f64 spec_Check.code spec_Check.sg spec_Check.rs 0 (no, c, fo, mi, ma) = some (specE no c fo mi ma) := by
  rw [spec_Check.eq]
  simp only [class_Known.f, prefix_Most.f, Option.bind_some, specE, decide_eq_true_eq]
  by_cases h1 : no < 2
  · rw [if_pos h1, if_pos (.inl h1)]
  rw [if_neg h1]
  by_cases h2 : no > 128
  · rw [if_pos h2, if_pos (.inr h2)]
  have h12 : ¬ (no < 2 ∨ 128 < no) := by omega
  rw [if_neg h2, if_neg h12]
  by_cases h3 : ¬ (1 ≤ c ∧ c ≤ 6)
  · rw [if_pos h3, if_pos h3]
  rw [if_neg h3, if_neg h3]
  by_cases h4 : ¬ (1 ≤ fo ∧ fo ≤ 3)
  · rw [if_pos h4]
    by_cases h41 : fo < 1
    · rw [if_pos h41]
    · have h42 : fo > 3 := by omega
      rw [if_neg h41, if_pos h42]
  have h41 : ¬ fo < 1 := by omega
  have h42 : ¬ fo > 3 := by omega
  rw [if_neg h41, if_neg h42, if_neg h4]
  by_cases a1 : mi < 1
  · simp [a1]
  by_cases a2 : mi > ma
  · simp [a1, a2]
  by_cases a3 : ma > 999
  · have a4 : (if fo = 2 then 99 else 999) < ma := by split <;> omega
    simp [a1, a2, a3, a4]
  rw [if_neg a1, if_neg a2, if_neg a3]
  rcases (show fo = 1 ∨ fo = 2 ∨ fo = 3 by omega) with rfl | rfl | rfl
  · by_cases a4 : mi = ma
    · subst a4
      by_cases a5 : c = 6 <;> simp [a1, a3, a5]
    · simp [a1, a2, a4]
  · have hm : preMost 2 = 99 := rfl
    rw [hm]
    by_cases a4 : ma > 99 <;> simp [a1, a2, a4]
  · have hm : preMost 3 = 999 := rfl
    rw [hm]
    simp [a1, a2, a3]
noncomputable def spec_Check.c : Con := ⟨64, spec_Check.sg, spec_Check.rs, spec_Check.f⟩
theorem spec_Check.con : ConOk Try.prog spec_Check.c := walked (C := spec_Check.C) rfl (by kernel_rfl) (by kernel_rfl) (by kernel_rfl) rfl ⟨class_Known.con, prefix_Most.con, trivial⟩ fun ⟨no, c, fo, mi, ma⟩ y h => ⟨0, (spec_Check.run no c fo mi ma).trans h⟩
end Go.Proofs.Ytjbhknfdfnilbaa.Xe
