/- SpecWider: of any two specs it is told whether the one may have all values that the other one may. -/
import Derived.Test.YtfaeodcapagjbaaSpecW
import Derived.Test.YtfaeodcapagjbaaPureClassWider0
import Derived.Test.YtfaeodcapagjbaaPx11
namespace Go.Proofs.Ytfaeodcapagjbaa.Pure
open Go.RowKit Go.Proofs.Ytfaeodcapagjbaa.P Go.Proofs.YtfaeodcapagjbaaW.PrintWords Go.Proofs.YtfaeodcapagjbaaW.PrintLast Go.Proofs.Ytfaeodcapagjbaa.Sp
set_option linter.unusedVariables false
set_option linter.unusedSimpArgs false
theorem ref11_Wider (no c fo mi ma no' c' fo' mi' ma' : Int) : groatref11_Wider.f 400 no c fo mi ma no' c' fo' mi' ma' = some (specW no c fo mi ma no' c' fo' mi' ma') := by
  unfold groatref11_Wider.f specW
  rw [ref11_Check _ _ _ _ _ _ (by decide), ref11_Check _ _ _ _ _ _ (by decide)]
  simp only [groatref11_Wider.j0, Option.bind_some]
  rw [at_rounds (groatref04_Wider.mono _ _) (by decide : 300 ≤ 399) (ref04_Wider c c')]
  unfold specC
  by_cases h1 : specE no c fo mi ma = 0
  · by_cases h2 : specE no' c' fo' mi' ma' = 0
    · rw [if_pos h1, if_pos h2]
      by_cases h3 : mi > mi'
      · rw [if_pos h3]
        have : ¬ mi ≤ mi' := by omega
        simp [this]
      · rw [if_neg h3]
        have h3' : mi ≤ mi' := by omega
        by_cases h4 : ma < ma'
        · have : ¬ ma' ≤ ma := by omega
          rw [decide_eq_true h4]; simp [this]
        · have h4' : ma' ≤ ma := by omega
          rw [decide_eq_false h4, if_neg (by decide)]
          rw [decide_eq_true (show specE no c fo mi ma = 0 ∧ specE no' c' fo' mi' ma' = 0 ∧ mi ≤ mi' ∧ ma' ≤ ma from ⟨h1, h2, h3', h4'⟩)]
          by_cases g1 : c = 5 <;> by_cases g2 : c = 6 <;> by_cases g3 : c' = 6 <;> simp [g1, g2, g3]
    · rw [if_pos h1, if_neg h2]; simp [h2]
  · rw [if_neg h1]; simp [h1]
theorem SpecWider : groatlaw11_SpecWider.Pure := by
  intro a b ha hb
  refine ⟨400, ?_⟩
  unfold groatlaw11_SpecWider.f
  rw [at_rounds groatlaw11_awake.mono (by decide : 60 ≤ 400) awake11, spec_Wider _ _ _ _ _ _ _ _ _ _ _ (by decide), ref11_Wider]
  simp
end Go.Proofs.Ytfaeodcapagjbaa.Pure
