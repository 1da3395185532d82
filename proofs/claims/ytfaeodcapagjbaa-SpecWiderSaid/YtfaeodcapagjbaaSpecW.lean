/- Which specs are wider than others. -/
import Derived.Test.YtfaeodcapagjbaaSpec
import Derived.Test.YtfaeodcapagjbaaClsW
import Derived.Test.YtfaeodcapagjbaaPx5
namespace Go.Proofs.Ytfaeodcapagjbaa.Sp
open Go.RowKit Go.Proofs.YtfaeodcapagjbaaW.PrintWords Go.Proofs.YtfaeodcapagjbaaW.PrintLast Go.Proofs.YtfaeodcapagjbaaW.PrintMore Go.Proofs.Ytfaeodcapagjbaa.P
set_option linter.unusedVariables false
set_option linter.unusedSimpArgs false
def specC (a b : Int) : Bool := if a = 5 then true else if a = 6 ∨ b = 6 then a == b else widC a b
theorem spec_classes (a b : Int) : spec_classes.f a b = some (specC a b) := by
  unfold spec_classes.f specC
  rw [class_Wider]
  by_cases h1 : a = 5 <;> by_cases h2 : a = 6 <;> by_cases h3 : b = 6 <;> simp [h1, h2, h3]
def specW (no c fo mi ma no' c' fo' mi' ma' : Int) : Bool :=
  decide (specE no c fo mi ma = 0 ∧ specE no' c' fo' mi' ma' = 0 ∧ mi ≤ mi' ∧ ma' ≤ ma) && specC c c'
theorem spec_Wider (no c fo mi ma no' c' fo' mi' ma' : Int) (k : Nat) (hk : 20 ≤ k) : spec_Wider.f k no c fo mi ma no' c' fo' mi' ma' = some (specW no c fo mi ma no' c' fo' mi' ma') := by
  unfold spec_Wider.f specW
  rw [spec_Check _ _ _ _ _ _ hk, spec_Check _ _ _ _ _ _ hk, spec_classes]
  by_cases h1 : specE no c fo mi ma = 0 <;> by_cases h2 : specE no' c' fo' mi' ma' = 0 <;> by_cases h3 : mi ≤ mi' <;> by_cases h4 : ma' ≤ ma <;> simp [h1, h2, h3, h4]
/-- What may be a value of a class may be one of a wider class. -/
theorem specC_in {a b : Int} (hb : 1 ≤ b ∧ b ≤ 6) (h : specC a b = true) (x : UInt8) (hx : inC b x = true) : inC a x = true := by
  unfold specC at h
  by_cases h1 : a = 5
  · subst h1; simp [inC, inN]
  · rw [if_neg h1] at h
    by_cases h2 : a = 6 ∨ b = 6
    · rw [if_pos h2] at h
      rw [beq_iff_eq.1 h]; exact hx
    · rw [if_neg h2] at h
      exact wid_in h x hx
theorem specC_six {a b : Int} (h : specC a b = true) (ha : a = 6) : b = 6 := by
  unfold specC at h
  rw [if_neg (by omega), if_pos (.inl ha)] at h
  rw [← beq_iff_eq.1 h]; exact ha
theorem awake11 : groatlaw11_awake.f 60 = some true := by decide +kernel
end Go.Proofs.Ytfaeodcapagjbaa.Sp
