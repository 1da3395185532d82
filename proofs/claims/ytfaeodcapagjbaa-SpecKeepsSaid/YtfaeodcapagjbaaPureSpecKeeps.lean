/- SpecKeeps: what may be a value may be one of a wider spec. -/
import Derived.Test.YtfaeodcapagjbaaSpecW
import Derived.Test.YtfaeodcapagjbaaPx12
namespace Go.Proofs.Ytfaeodcapagjbaa.Pure
open Go.RowKit Go.Proofs.Ytfaeodcapagjbaa.P Go.Proofs.YtfaeodcapagjbaaW.PrintWords Go.Proofs.YtfaeodcapagjbaaW.PrintLast Go.Proofs.Ytfaeodcapagjbaa.Sp
set_option linter.unusedVariables false
set_option linter.unusedSimpArgs false
theorem keeps {no c fo mi ma no' c' fo' mi' ma' : Int} {l : List UInt8} (hw : specW no c fo mi ma no' c' fo' mi' ma' = true) (hv : specV no' c' fo' mi' ma' l = 0) : specV no c fo mi ma l = 0 := by
  simp only [specW, Bool.and_eq_true, decide_eq_true_eq] at hw
  obtain ⟨⟨h1, h2, h3, h4⟩, h5⟩ := hw
  have hz := specE_zero h2
  unfold specV at hv ⊢
  rw [if_neg (not_not_intro h2)] at hv
  rw [if_neg (not_not_intro h1)]
  by_cases g1 : (l.length : Int) < mi' ∨ ma' < (l.length : Int)
  · rw [if_pos g1] at hv; cases hv
  · rw [if_neg g1] at hv
    rw [if_neg (by omega)]
    by_cases g2 : l.all (inC c') = false
    · rw [if_pos g2] at hv; cases hv
    · rw [if_neg g2] at hv
      have g3 : l.all (inC c) = true := by
        rw [Bool.not_eq_false] at g2
        rw [List.all_eq_true] at g2 ⊢
        exact fun x hx => specC_in hz.2.1 h5 x (g2 x hx)
      rw [if_neg (by rw [g3]; decide)]
      by_cases g4 : c = 6 ∧ tlvErr l ≠ 0
      · rw [if_pos ⟨specC_six h5 g4.1, g4.2⟩] at hv; cases hv
      · rw [if_neg g4]
theorem SpecKeeps : groatlaw11_SpecKeeps.Pure := by
  intro a b text ha hb ht
  obtain ⟨l, rfl⟩ := ex_sb text
  refine ⟨6001, ?_⟩
  have e1 : groatlaw11_awake.f 6001 = some true := at_rounds groatlaw11_awake.mono (by decide) awake11
  have e2 : groatlaw11_awake.f 6000 = some true := at_rounds groatlaw11_awake.mono (by decide) awake11
  unfold groatlaw11_SpecKeeps.f
  rw [e1, Option.bind_some, if_pos rfl, size_sb, spec_Wider _ _ _ _ _ _ _ _ _ _ _ (by decide), spec_Value _ _ _ _ _ _ _ (by decide), Option.bind_some, Option.bind_some]
  simp only [groatlaw11_SpecKeeps.j0]
  rw [e2]
  by_cases h : (l.length : Int) > 2000
  · rw [if_pos h]; rfl
  · rw [if_neg h]
    by_cases hw : specW a.f0 a.f1 a.f2 a.f3 a.f4 b.f0 b.f1 b.f2 b.f3 b.f4 = true
    · rw [if_pos hw]
      by_cases hv : specV b.f0 b.f1 b.f2 b.f3 b.f4 l = 0
      · rw [hv, if_neg (by decide), spec_Value _ _ _ _ _ _ _ (by decide), keeps hw hv]; rfl
      · rw [if_pos (bne_iff_ne.2 hv)]; rfl
    · rw [if_neg hw]; rfl
end Go.Proofs.Ytfaeodcapagjbaa.Pure
