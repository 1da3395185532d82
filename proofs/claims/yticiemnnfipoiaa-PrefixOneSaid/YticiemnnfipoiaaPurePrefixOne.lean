/- PrefixOne: bytes that are got are put as they were; no length is above the greatest. No conditions beyond the statement's own. -/
import Derived.Test.YticiemnnfipoiaaPreG
import Derived.Test.YticiemnnfipoiaaPreM
import Derived.Test.YticiemnnfipoiaaPx9
namespace Go.Proofs.Yticiemnnfipoiaa.Pure
open Go.RowKit Go.Proofs.Yticiemnnfipoiaa.P Go.Proofs.YticiemnnfipoiaaW.PrintWords Go.Proofs.YticiemnnfipoiaaW.PrintLast Go.Proofs.Yticiemnnfipoiaa.Sp
theorem awake07 : groatlaw07_awake.f 30 = some true := by decide +kernel
theorem pone (s f : Int) (l : List UInt8) (hl : l.length ≤ 140737488351232) (k : Nat) (hk : 1200 < k) : groatlaw07_PrefixOne.j0 (k + 1) (sb l) false s f = some true := by
  rw [groatlaw07_PrefixOne.j0, if_neg (by decide), prefix_Get s f l hl 0 k (by omega), Option.bind_some]
  by_cases h1 : (preGet s f l 0).2.2 = 0
  · have h' : preGet s f l 0 = ((preGet s f l 0).1, (preGet s f l 0).2.1, 0) := by
      obtain ⟨r, hr⟩ : ∃ r, r = preGet s f l 0 := ⟨_, rfl⟩
      rw [← hr] at h1 ⊢
      rw [← h1]
    obtain ⟨g1, -, g3, g4, g5, g6, -⟩ := prePut_get h'
    have gm : preMost f ≤ 999 := by unfold preMost; split; decide; split <;> decide
    have n1 : (preGet s f l 0).1 ≤ 9223372036854775807 := by omega
    have n2 : (preGet s f l 0).2.1 ≥ 0 := by omega
    have n3 : 0 ≤ (preGet s f l 0).2.1 := by omega
    have e1 : ((preGet s f l 0).2.1).toNat = preSize s f := by omega
    rw [if_pos h1, prefix_Put s f _ n1 k (by omega), Option.bind_some, g1, if_pos rfl, if_pos n2, size_sb, if_pos g4, if_pos n3, e1, sb_extract, toList_sb, toList_sb]
    simp only [Int.toNat_zero, List.drop_zero, if_true]
    rw [prefix_Most f k (by omega), Option.bind_some, decide_eq_true g6]
  · obtain ⟨g1, g2⟩ := preGet_no h1
    rw [if_neg h1, g1, g2]; rfl
theorem PrefixOne : groatlaw07_PrefixOne.Pure := by
  intro h s _ hs
  obtain ⟨l, rfl⟩ := ex_sb s
  rw [size_sb] at hs
  have aw : ∀ k, 30 ≤ k → groatlaw07_awake.f k = some true := fun k hk => at_rounds groatlaw07_awake.mono hk awake07
  refine ⟨1300, ?_⟩
  unfold groatlaw07_PrefixOne.f
  rw [aw _ (by decide), Option.bind_some, if_pos rfl]
  cases decide (((sb l).size : Int) > 500) with
  | true => simp only [groatlaw07_PrefixOne.j0, if_true]; rw [aw _ (by decide)]; rfl
  | false => exact pone _ _ l hs 1299 (by decide)
end Go.Proofs.Yticiemnnfipoiaa.Pure
