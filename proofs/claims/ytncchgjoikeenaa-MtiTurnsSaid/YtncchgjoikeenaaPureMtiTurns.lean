/- MtiTurns: any MTI has any version that may be, and then that is its version; all else stays. No conditions beyond the statement's own. -/
import Derived.Test.YtncchgjoikeenaaR15w
import Derived.Test.YtncchgjoikeenaaPx3
namespace Go.Proofs.Ytncchgjoikeenaa.Pure
open Go.RowKit Go.Proofs.Ytncchgjoikeenaa.P Go.Proofs.YtncchgjoikeenaaW.PrintWords Go.Proofs.YtncchgjoikeenaaW.PrintLast Go.Proofs.Ytncchgjoikeenaa.Sp
theorem awake15 : groatlaw15_awake.f = some true := by decide +kernel
theorem MtiTurns : groatlaw15_MtiTurns.Pure := by
  intro s v hs hv
  obtain ⟨l, rfl⟩ := ex_sb s
  rw [size_sb] at hs
  refine ⟨l.length + 30, ?_⟩
  unfold groatlaw15_MtiTurns.f
  rw [awake15, Option.bind_some, if_pos rfl]
  simp only [groatlaw15_MtiTurns.j0]
  by_cases h1 : decide (((sb l).size : Int) > 100) = true
  · rw [if_pos h1, awake15]; rfl
  · rw [if_neg h1, ref15_Right l hs _ (by omega)]
    cases h : right l with
    | false => rw [mti_With_no l v (.inl h)]; simp [groatlaw15_MtiTurns.j1, toList_sb]
    | true =>
      by_cases h2 : v < 0
      · rw [mti_With_no l v (.inr (.inl h2))]; simp [groatlaw15_MtiTurns.j1, toList_sb, h2]
      · by_cases h3 : 9 < v
        · rw [mti_With_no l v (.inr (.inr h3))]; simp [groatlaw15_MtiTurns.j1, toList_sb, h2, h3]
        · obtain ⟨a, b, c, d, rfl, ha, hb, hc, hd⟩ := four h
          obtain ⟨n, rfl⟩ := Int.eq_ofNat_of_zero_le (show 0 ≤ v by omega)
          have hn : dig (u8 (48 + n)) = true := dig_ofNat (by omega)
          have hr := right_four hn hb hc hd
          have e3 : decide ((n : Int) > 9) = false := decide_eq_false (by omega)
          rw [mti_With_yes a b c d n h (by omega)]
          simp only [Option.bind_some, if_true]
          rw [if_neg h2, e3]
          simp only [groatlaw15_MtiTurns.j1]
          rw [if_neg (by decide), mti_Version_yes _ b c d hr hn, ref15_With a b c d n (by omega) _ (by omega), mti_Request, mti_Request, u8_toNat _ (by omega)]
          have e4 : asks [u8 (48 + n), b, c, d] = asks [a, b, c, d] := by unfold asks; rw [h, hr]; rfl
          have e5 : (((48 + n : Nat) : Int) - 48) = n := by omega
          simp only [Option.bind_some]
          rw [e5]; simp [e4]
end Go.Proofs.Ytncchgjoikeenaa.Pure
