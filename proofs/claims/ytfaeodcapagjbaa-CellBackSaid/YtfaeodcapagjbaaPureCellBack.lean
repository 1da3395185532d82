/- CellBack: a value that is put is got as it was. -/
import Derived.Test.YtfaeodcapagjbaaCellS
import Derived.Test.YtfaeodcapagjbaaCellA
import Derived.Test.YtfaeodcapagjbaaPx19
namespace Go.Proofs.Ytfaeodcapagjbaa.Pure
open Go.RowKit Go.Proofs.Ytfaeodcapagjbaa.P Go.Proofs.YtfaeodcapagjbaaW.PrintWords Go.Proofs.YtfaeodcapagjbaaW.PrintLast Go.Proofs.Ytfaeodcapagjbaa.Sp
set_option linter.unusedVariables false
set_option linter.unusedSimpArgs false
theorem CellBack : groatlaw12_CellBack.Pure := by
  intro st s text hst hs ht
  obtain ⟨l, rfl⟩ := ex_sb text
  refine ⟨6001, ?_⟩
  have e1 : groatlaw12_awake.f 6001 = some true := at_rounds groatlaw12_awake.mono (by decide) awake12
  have e2 : groatlaw12_awake.f 6000 = some true := at_rounds groatlaw12_awake.mono (by decide) awake12
  unfold groatlaw12_CellBack.f
  rw [e1, Option.bind_some, if_pos rfl, size_sb]
  simp only [groatlaw12_CellBack.j0]
  rw [e2]
  by_cases h : (l.length : Int) > 999
  · rw [decide_eq_true h, if_pos rfl]; rfl
  · rw [decide_eq_false h, if_neg (by decide), cell_Put _ _ _ _ _ _ _ _ (by decide), Option.bind_some]
    dsimp only
    by_cases h0 : st = 1 ∨ st = 2
    · by_cases hv : specV s.f0 s.f1 s.f2 s.f3 s.f4 l = 0
      · have hl := specV_len hv
        have hz := specE_zero (specV_zero hv).1
        have e0 : (cellPut st s.f0 s.f1 s.f2 s.f3 s.f4 l).2 = 0 := by unfold cellPut; rw [if_neg (not_not_intro h0), if_neg (not_not_intro hv)]
        have hlen : (cellPut st s.f0 s.f1 s.f2 s.f3 s.f4 l).1.length ≤ 140737488351232 := by
          unfold cellPut
          rw [if_neg (not_not_intro h0), if_neg (not_not_intro hv), List.length_append]
          have := body_length st s.f1 l hl
          have := head_length st s.f2 l.length hz.2.2.1
          omega
        have hg := get_put st s.f0 s.f1 s.f2 s.f3 s.f4 l [] [] h0 hv
        rw [List.nil_append, List.append_nil] at hg
        rw [e0, if_pos rfl, cell_Get _ _ _ _ _ _ _ hlen _ _ (by decide), Option.bind_some, show ((0 : Int)) = (([] : List UInt8).length : Int) from rfl, hg, size_sb]
        simp
      · have e0 : cellPut st s.f0 s.f1 s.f2 s.f3 s.f4 l = ([], specV s.f0 s.f1 s.f2 s.f3 s.f4 l) := by unfold cellPut; rw [if_neg (not_not_intro h0), if_pos hv]
        rw [e0]
        dsimp only
        rw [if_neg hv, toList_sb]; rfl
    · have e0 : cellPut st s.f0 s.f1 s.f2 s.f3 s.f4 l = ([], 1) := by unfold cellPut; rw [if_pos h0]
      rw [e0]
      dsimp only
      rw [if_neg (by decide), toList_sb]; rfl
end Go.Proofs.Ytfaeodcapagjbaa.Pure
