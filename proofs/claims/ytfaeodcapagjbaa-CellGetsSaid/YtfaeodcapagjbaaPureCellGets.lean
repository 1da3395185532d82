/- CellGets: at any place of any bytes stands the value that the document says, or none, for the reason that it says. -/
import Derived.Test.YtfaeodcapagjbaaR12g
import Derived.Test.YtfaeodcapagjbaaCellA
import Derived.Test.YtfaeodcapagjbaaPx22
namespace Go.Proofs.Ytfaeodcapagjbaa.Pure
open Go.RowKit Go.Proofs.Ytfaeodcapagjbaa.P Go.Proofs.YtfaeodcapagjbaaW.PrintWords Go.Proofs.YtfaeodcapagjbaaW.PrintLast Go.Proofs.Ytfaeodcapagjbaa.Sp
set_option linter.unusedVariables false
set_option linter.unusedSimpArgs false
theorem CellGets : groatlaw12_CellGets.Pure := by
  intro st s text hst hs ht
  obtain ⟨l, rfl⟩ := ex_sb text
  rw [size_sb] at ht
  refine ⟨6001, ?_⟩
  have e1 : groatlaw12_awake.f 6001 = some true := at_rounds groatlaw12_awake.mono (by decide) awake12
  have e2 : groatlaw12_awake.f 6000 = some true := at_rounds groatlaw12_awake.mono (by decide) awake12
  unfold groatlaw12_CellGets.f
  rw [e1, Option.bind_some, if_pos rfl, size_sb]
  simp only [groatlaw12_CellGets.j0]
  rw [e2]
  by_cases h : (l.length : Int) > 2500
  · rw [decide_eq_true h, if_pos rfl]; rfl
  · rw [decide_eq_false h, if_neg (by decide), cell_Get _ _ _ _ _ _ _ ht _ _ (by decide), ref12_Get _ _ _ _ _ _ _ ht _ _ (by decide)]
    simp
end Go.Proofs.Ytfaeodcapagjbaa.Pure
