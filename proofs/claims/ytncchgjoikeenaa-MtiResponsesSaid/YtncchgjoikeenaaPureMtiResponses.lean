/- MtiResponses: what asks has the answer that the document says, which doesn't ask; what doesn't ask has none. No conditions beyond the statement's own. -/
import Derived.Test.YtncchgjoikeenaaR15r
import Derived.Test.YtncchgjoikeenaaPx3
namespace Go.Proofs.Ytncchgjoikeenaa.Pure
open Go.RowKit Go.Proofs.Ytncchgjoikeenaa.P Go.Proofs.YtncchgjoikeenaaW.PrintWords Go.Proofs.YtncchgjoikeenaaW.PrintLast Go.Proofs.Ytncchgjoikeenaa.Sp
theorem awake15 : groatlaw15_awake.f = some true := by decide +kernel
theorem MtiResponses : groatlaw15_MtiResponses.Pure := by
  intro s hs
  obtain ⟨l, rfl⟩ := ex_sb s
  rw [size_sb] at hs
  refine ⟨l.length + 30, ?_⟩
  unfold groatlaw15_MtiResponses.f
  rw [awake15, Option.bind_some, if_pos rfl]
  simp only [groatlaw15_MtiResponses.j0]
  by_cases h1 : decide (((sb l).size : Int) > 100) = true
  · rw [if_pos h1, awake15]; rfl
  · rw [if_neg h1, ref15_Request l hs _ (by omega)]
    cases h : asks l with
    | false => rw [mti_Response_no l h]; simp [toList_sb]
    | true =>
      obtain ⟨a, b, c, d, rfl, hr, ha, hb, hd, hc⟩ := asks_four h
      rw [mti_Response_yes a b c d h, ref15_Response a b c d h _ (by omega)]
      simp only [Option.bind_some, if_true]
      rw [mti_Right, mti_Request]
      have hi := inc_dig c hc
      have hn : dig (u8 (c.toNat + 1)) = true := by rw [dig_iff, hi]; omega
      have hr := right_four ha hb hn hd
      have e : asks [a, b, u8 (c.toNat + 1), d] = false := by
        unfold asks
        simp only [List.getElem?_cons_succ, List.getElem?_cons_zero, Option.getD_some, hi]
        rcases hc with hc | hc <;> rw [hc] <;> simp
      simp [hr, e]
end Go.Proofs.Ytncchgjoikeenaa.Pure
