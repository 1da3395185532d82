/- What the program's Most answers. -/
import Derived.Test.YtfaeodcapagjbaaPreP
import Derived.Test.YtfaeodcapagjbaaPx1
namespace Go.Proofs.Ytfaeodcapagjbaa.Sp
open Go.RowKit Go.Proofs.YtfaeodcapagjbaaW.PrintWords Go.Proofs.YtfaeodcapagjbaaW.PrintLast Go.Proofs.YtfaeodcapagjbaaW.PrintMore Go.Proofs.Ytfaeodcapagjbaa.P
set_option linter.unusedVariables false
set_option linter.unusedSimpArgs false
theorem most2 : prefix_Most.f 10 2 = some 99 := by decide +kernel
theorem most3 : prefix_Most.f 10 3 = some 999 := by decide +kernel
theorem prefix_Most10 (f : Int) : prefix_Most.f 10 f = some (preMost f) := by
  unfold preMost
  by_cases h : f = 2
  · subst h; exact most2
  · rw [if_neg h]
    by_cases h' : f = 3
    · subst h'; exact most3
    · rw [if_neg h']
      unfold prefix_Most.f
      rw [prefix_width, Option.bind_some, if_neg (by omega)]
      simp [prefix_Most.l0]
theorem prefix_Most (f : Int) (k : Nat) (hk : 10 ≤ k) : prefix_Most.f k f = some (preMost f) := at_rounds (prefix_Most.mono f) hk (prefix_Most10 f)
end Go.Proofs.Ytfaeodcapagjbaa.Sp
