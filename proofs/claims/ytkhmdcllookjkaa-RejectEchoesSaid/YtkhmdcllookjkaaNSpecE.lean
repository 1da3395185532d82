/- What the program's and the reference's functions on specs answer. -/
import Derived.Test.YtkhmdcllookjkaaNCls
import Derived.Test.YtkhmdcllookjkaaNPreM
namespace Go.Proofs.Ytkhmdcllookjkaa.Sp
open Go Go.RowKit
set_option linter.unusedVariables false
set_option linter.unusedSimpArgs false
/-- What is wrong with a spec; 0: nothing. -/
def specE (no c fo mi ma : Int) : Int :=
  if no < 2 ∨ 128 < no then 1 else if ¬ (1 ≤ c ∧ c ≤ 6) then 6 else if ¬ (1 ≤ fo ∧ fo ≤ 3) then 3
  else if mi < 1 ∨ ma < mi ∨ (if fo = 2 then 99 else 999) < ma ∨ (fo = 1 ∧ mi ≠ ma) then 5 else if fo = 1 ∧ c = 6 then 13 else 0
theorem specE_zero {no c fo mi ma : Int} (h : specE no c fo mi ma = 0) : (2 ≤ no ∧ no ≤ 128) ∧ (1 ≤ c ∧ c ≤ 6) ∧ (1 ≤ fo ∧ fo ≤ 3) ∧ 1 ≤ mi ∧ mi ≤ ma ∧ ma ≤ 999 ∧ (fo = 2 → ma ≤ 99) ∧ (fo = 1 → mi = ma) ∧ (fo = 1 → c ≠ 6) := by
  unfold specE at h
  by_cases h1 : no < 2 ∨ 128 < no
  · rw [if_pos h1] at h; cases h
  rw [if_neg h1] at h
  by_cases h2 : 1 ≤ c ∧ c ≤ 6
  · rw [if_neg (not_not_intro h2)] at h
    by_cases h3 : 1 ≤ fo ∧ fo ≤ 3
    · rw [if_neg (not_not_intro h3)] at h
      by_cases h4 : mi < 1 ∨ ma < mi ∨ (if fo = 2 then 99 else 999) < ma ∨ (fo = 1 ∧ mi ≠ ma)
      · rw [if_pos h4] at h; cases h
      rw [if_neg h4] at h
      by_cases h5 : fo = 1 ∧ c = 6
      · rw [if_pos h5] at h; cases h
      by_cases h6 : fo = 2
      · rw [if_pos h6] at h4; omega
      · rw [if_neg h6] at h4; omega
    · rw [if_pos h3] at h; cases h
  · rw [if_pos h2] at h; cases h
theorem most_iff (fo ma : Int) (h : 1 ≤ fo ∧ fo ≤ 3) : (999 < ma ∨ (fo ≠ 1 ∧ preMost fo < ma)) ↔ (if fo = 2 then 99 else 999) < ma := by
  unfold preMost
  by_cases h2 : fo = 2
  · subst h2; simp; omega
  · by_cases h3 : fo = 3
    · subst h3; simp
    · have : fo = 1 := by omega
      subst this; simp
end Go.Proofs.Ytkhmdcllookjkaa.Sp
