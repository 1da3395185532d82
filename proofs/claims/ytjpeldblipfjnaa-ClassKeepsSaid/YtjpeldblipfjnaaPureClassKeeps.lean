/- ClassKeeps: what is all of a class is all of a wider one. No conditions beyond the statement's own. -/
import Derived.Test.YtjpeldblipfjnaaClsW
import Derived.Test.YtjpeldblipfjnaaPx6
namespace Go.Proofs.Ytjpeldblipfjnaa.Pure
open Go.RowKit Go.Proofs.Ytjpeldblipfjnaa.P Go.Proofs.YtjpeldblipfjnaaW.PrintWords Go.Proofs.YtjpeldblipfjnaaW.PrintLast Go.Proofs.Ytjpeldblipfjnaa.Sp
theorem awake04 : groatlaw04_awake.f 20 = some true := by decide +kernel
theorem ClassKeeps : groatlaw04_ClassKeeps.Pure := by
  intro a b s ha hb hs
  obtain ⟨l, rfl⟩ := ex_sb s
  rw [size_sb] at hs
  refine ⟨l.length + 30, ?_⟩
  have aw : ∀ k, 20 ≤ k → groatlaw04_awake.f k = some true := fun k hk => at_rounds groatlaw04_awake.mono hk awake04
  have jt : groatlaw04_ClassKeeps.j0 (l.length + 30) a b (sb l) true = some true := by
    simp only [groatlaw04_ClassKeeps.j0, if_true]
    rw [aw _ (by omega)]; rfl
  unfold groatlaw04_ClassKeeps.f
  rw [aw _ (by omega), Option.bind_some, if_pos rfl]
  by_cases h1 : ((sb l).size : Int) > 2000
  · rw [if_pos h1, jt]
  · rw [if_neg h1, class_Wider, Option.bind_some]
    cases hw : widC a b with
    | false => exact jt
    | true =>
      show groatlaw04_ClassKeeps.j0 (l.length + 29 + 1) a b (sb l) false = _
      simp only [groatlaw04_ClassKeeps.j0]
      rw [if_neg (by decide), class_First b l hs _ (by omega), Option.bind_some]
      by_cases h2 : firstFrom (inC b) 0 l ≥ 0
      · rw [if_pos h2]
      · rw [if_neg h2, class_First a l hs _ (by omega), Option.bind_some]
        have hall : l.all (inC b) = true := by
          cases h : l.all (inC b) with
          | true => rfl
          | false => exact absurd ((first_ge _ l 0).2 h) h2
        have hall2 : l.all (inC a) = true := by
          rw [List.all_eq_true] at hall ⊢
          exact fun x hx => wid_in hw x (hall x hx)
        rw [first_all _ l 0 hall2]; rfl
end Go.Proofs.Ytjpeldblipfjnaa.Pure
