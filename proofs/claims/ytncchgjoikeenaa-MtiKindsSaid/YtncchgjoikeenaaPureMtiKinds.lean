/- MtiKinds: the answer of what has another version has that version; unlike MTIs have unlike answers. No conditions beyond the statement's own. -/
import Derived.Test.YtncchgjoikeenaaMti
import Derived.Test.YtncchgjoikeenaaPx4
namespace Go.Proofs.Ytncchgjoikeenaa.Pure
open Go.RowKit Go.Proofs.Ytncchgjoikeenaa.P Go.Proofs.YtncchgjoikeenaaW.PrintWords Go.Proofs.YtncchgjoikeenaaW.PrintLast Go.Proofs.Ytncchgjoikeenaa.Sp
theorem awake15 : groatlaw15_awake.f = some true := by decide +kernel
theorem kinds (l m : List UInt8) (v : Int) (h0 : ¬ v < 0) (h9 : ¬ 9 < v) (k : Nat) : groatlaw15_MtiKinds.j0 (k + 2) (sb l) (sb m) v false = some true := by
  simp only [groatlaw15_MtiKinds.j0]
  rw [if_neg (by decide)]
  cases h : asks l with
  | false =>
    rw [mti_Response_no l h]
    obtain ⟨r, hr⟩ : ∃ r, mti_Response.f (sb m) = some r := by
      cases hm : asks m with
      | false => exact ⟨_, mti_Response_no m hm⟩
      | true => obtain ⟨a, b, c, d, rfl, -⟩ := asks_four hm; exact ⟨_, mti_Response_yes a b c d hm⟩
    rw [hr]; simp [groatlaw15_MtiKinds.j1]
  | true =>
    obtain ⟨a, b, c, d, rfl, hr, ha, hb, hd, hc⟩ := asks_four h
    rw [mti_Response_yes a b c d h]
    cases hm : asks m with
    | false => rw [mti_Response_no m hm]; simp [groatlaw15_MtiKinds.j1]
    | true =>
      obtain ⟨a', b', c', d', rfl, hr', ha', hb', hd', hc'⟩ := asks_four hm
      rw [mti_Response_yes a' b' c' d' hm]
      obtain ⟨n, rfl⟩ := Int.eq_ofNat_of_zero_le (show 0 ≤ v by omega)
      have hi := inc_dig c hc
      have hi' := inc_dig c' hc'
      have hn : dig (u8 (c.toNat + 1)) = true := by rw [dig_iff, hi]; omega
      have hv : dig (u8 (48 + n)) = true := dig_ofNat (by omega)
      have hdc : dig c = true := by rw [dig_iff]; omega
      have hr1 := right_four ha hb hn hd
      have hr2 := right_four hv hb hdc hd
      have ha2 : asks [u8 (48 + n), b, c, d] = true := by
        simp only [asks, hr2, Bool.true_and]
        simp only [asks, hr, Bool.true_and] at h
        exact h
      simp only [groatlaw15_MtiKinds.j1, Option.bind_some, if_true, Bool.not_true, Bool.false_eq_true, if_false]
      rw [mti_With_yes a b c d n hr (by omega), Option.bind_some, mti_Response_yes _ b c d ha2, Option.bind_some, mti_With_yes a b _ d n hr1 (by omega), Option.bind_some]
      have inj : u8 (c.toNat + 1) = u8 (c'.toNat + 1) ↔ c = c' := by
        constructor
        · intro e
          apply u8_ext
          have := congrArg UInt8.toNat e
          rw [hi, hi'] at this; omega
        · intro e; rw [e]
      have e : (([a, b, u8 (c.toNat + 1), d] : List UInt8) == [a', b', u8 (c'.toNat + 1), d']) = (([a, b, c, d] : List UInt8) == [a', b', c', d']) := by
        rw [Bool.eq_iff_iff]; simp [inj]
      simp only [toList_sb, e]
      simp
theorem MtiKinds : groatlaw15_MtiKinds.Pure := by
  intro s t v hs ht hv
  obtain ⟨l, rfl⟩ := ex_sb s
  obtain ⟨m, rfl⟩ := ex_sb t
  refine ⟨2, ?_⟩
  unfold groatlaw15_MtiKinds.f
  rw [awake15, Option.bind_some, if_pos rfl]
  have big : groatlaw15_MtiKinds.j0 2 (sb l) (sb m) v true = some true := by simp [groatlaw15_MtiKinds.j0, awake15]
  by_cases h1 : ((sb l).size : Int) > 100
  · rw [if_pos h1, big]
  · rw [if_neg h1]
    by_cases h2 : ((sb m).size : Int) > 100
    · rw [if_pos h2, big]
    · rw [if_neg h2]
      by_cases h3 : v < 0
      · rw [if_pos h3, big]
      · rw [if_neg h3]
        by_cases h4 : 9 < v
        · rw [show decide (v > 9) = true from decide_eq_true h4, big]
        · rw [show decide (v > 9) = false from decide_eq_false h4]
          exact kinds l m v h3 h4 0
end Go.Proofs.Ytncchgjoikeenaa.Pure
