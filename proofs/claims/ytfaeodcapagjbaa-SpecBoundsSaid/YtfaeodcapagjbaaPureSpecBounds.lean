/- SpecBounds: a value is as long as it may be, and one byte more than the greatest length is refused. -/
import Derived.Test.YtfaeodcapagjbaaSpecW
import Derived.Test.YtfaeodcapagjbaaPx10
namespace Go.Proofs.Ytfaeodcapagjbaa.Pure
open Go.RowKit Go.Proofs.Ytfaeodcapagjbaa.P Go.Proofs.YtfaeodcapagjbaaW.PrintWords Go.Proofs.YtfaeodcapagjbaaW.PrintLast Go.Proofs.Ytfaeodcapagjbaa.Sp
set_option linter.unusedVariables false
set_option linter.unusedSimpArgs false
theorem specV_zero {no c fo mi ma : Int} {l : List UInt8} (h : specV no c fo mi ma l = 0) : specE no c fo mi ma = 0 ∧ mi ≤ (l.length : Int) ∧ (l.length : Int) ≤ ma := by
  unfold specV at h
  by_cases h1 : specE no c fo mi ma = 0
  · rw [if_neg (not_not_intro h1)] at h
    by_cases h2 : (l.length : Int) < mi ∨ ma < (l.length : Int)
    · rw [if_pos h2] at h; cases h
    · exact ⟨h1, by omega, by omega⟩
  · rw [if_pos h1] at h; cases h
theorem bounds_l (no c fo mi ma : Int) (x : List UInt8) (h0 : specE no c fo mi ma = 0) (h1 : mi ≤ (x.length : Int)) (h2 : (x.length : Int) ≤ ma) : ∀ (d k : Nat) (l : List UInt8), ma < (l.length : Int) + d → l.length ≤ 1001 → 3000 + d < k → groatlaw11_SpecBounds.l0 k (sb x) (sb l) no c fo mi ma = some true
  | 0, k, l, hd, hl, hk => by
    obtain ⟨k, rfl⟩ : ∃ m, k = m + 1 := ⟨k - 1, by omega⟩
    have hz := specE_zero h0
    have b1 : ¬ (l.length : Int) ≤ ma := by omega
    have b2 : (x.length : Int) ≥ mi := h1
    have b3 : (x.length : Int) ≥ 1 := by omega
    have hv : specV no c fo mi ma l = 5 := by
      unfold specV
      rw [if_neg (not_not_intro h0), if_pos (Or.inr (by omega))]
    simp only [groatlaw11_SpecBounds.l0]
    rw [size_sb, size_sb, if_neg b1, if_pos b2, if_pos h2, if_pos b3, spec_Value _ _ _ _ _ _ _ (by omega), hv]
    rfl
  | d + 1, k, l, hd, hl, hk => by
    obtain ⟨k, rfl⟩ : ∃ m, k = m + 1 := ⟨k - 1, by omega⟩
    have hz := specE_zero h0
    by_cases b1 : (l.length : Int) ≤ ma
    · have b4 : (l.length : Int) < 2000 := by omega
      have b5 : l.length + 1 ≤ 9223372036854775807 := by omega
      have ih := bounds_l no c fo mi ma x h0 h1 h2 d k (l ++ [48]) (by rw [List.length_append]; simp; omega) (by rw [List.length_append]; simp; omega) (by omega)
      simp only [groatlaw11_SpecBounds.l0]
      rw [size_sb, size_sb, if_pos b1, if_pos b4, if_pos b5, show (⟨#[48]⟩ : ByteArray) = sb [48] from rfl, sb_append]
      exact ih
    · have b2 : (x.length : Int) ≥ mi := h1
      have b3 : (x.length : Int) ≥ 1 := by omega
      have hv : specV no c fo mi ma l = 5 := by
        unfold specV
        rw [if_neg (not_not_intro h0), if_pos (Or.inr (by omega))]
      simp only [groatlaw11_SpecBounds.l0]
      rw [size_sb, size_sb, if_neg b1, if_pos b2, if_pos h2, if_pos b3, spec_Value _ _ _ _ _ _ _ (by omega), hv]
      rfl
theorem SpecBounds : groatlaw11_SpecBounds.Pure := by
  intro s text hs ht
  obtain ⟨l, rfl⟩ := ex_sb text
  refine ⟨6001, ?_⟩
  have ha : groatlaw11_awake.f 6001 = some true := at_rounds groatlaw11_awake.mono (by decide) awake11
  have ha' : groatlaw11_awake.f 6000 = some true := at_rounds groatlaw11_awake.mono (by decide) awake11
  unfold groatlaw11_SpecBounds.f
  rw [ha, Option.bind_some, if_pos rfl, size_sb, spec_Value _ _ _ _ _ _ _ (by decide), Option.bind_some]
  simp only [groatlaw11_SpecBounds.j0]
  rw [ha']
  by_cases h : (l.length : Int) > 999
  · rw [if_pos h]; rfl
  · rw [if_neg h]
    by_cases hv : specV s.f0 s.f1 s.f2 s.f3 s.f4 l = 0
    · rw [hv, if_neg (by decide)]
      obtain ⟨h0, h1, h2⟩ := specV_zero hv
      have hz := specE_zero h0
      exact bounds_l _ _ _ _ _ _ h0 h1 h2 1000 6000 l (by omega) (by omega) (by decide)
    · rw [if_pos (bne_iff_ne.2 hv)]; rfl
end Go.Proofs.Ytfaeodcapagjbaa.Pure
