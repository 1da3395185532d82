/- SpecValues: any text may be a field's value, or not, for the reason that the document says. -/
import Derived.Test.YtfaeodcapagjbaaSpecW
import Derived.Test.YtfaeodcapagjbaaPx9
namespace Go.Proofs.Ytfaeodcapagjbaa.Pure
open Go.RowKit Go.Proofs.Ytfaeodcapagjbaa.P Go.Proofs.YtfaeodcapagjbaaW.PrintWords Go.Proofs.YtfaeodcapagjbaaW.PrintLast Go.Proofs.Ytfaeodcapagjbaa.Sp
set_option linter.unusedVariables false
set_option linter.unusedSimpArgs false
theorem SpecValues : groatlaw11_SpecValues.Pure := by
  intro s text hs ht
  obtain ⟨l, rfl⟩ := ex_sb text
  refine ⟨5001, ?_⟩
  have ha : groatlaw11_awake.f 5001 = some true := at_rounds groatlaw11_awake.mono (by decide) awake11
  have ha' : groatlaw11_awake.f 5000 = some true := at_rounds groatlaw11_awake.mono (by decide) awake11
  unfold groatlaw11_SpecValues.f
  rw [ha, Option.bind_some, if_pos rfl, size_sb]
  simp only [groatlaw11_SpecValues.j0]
  rw [ha']
  by_cases h : (l.length : Int) > 2000
  · rw [decide_eq_true h, if_pos rfl]; rfl
  · rw [decide_eq_false h, if_neg (by decide), spec_Value _ _ _ _ _ _ _ (by decide), ref11_Value _ _ _ _ _ _ _ (by decide)]
    simp
end Go.Proofs.Ytfaeodcapagjbaa.Pure
