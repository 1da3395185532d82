/- PrefixBack: a length that is put is got as it was, whatever stands ahead and behind. No conditions beyond the statement's own. -/
import Derived.Test.YticiemnnfipoiaaPreG
import Derived.Test.YticiemnnfipoiaaWf
import Derived.Test.YticiemnnfipoiaaPx8
namespace Go.Proofs.Yticiemnnfipoiaa.Pure
open Go.RowKit Go.Proofs.Yticiemnnfipoiaa.P Go.Proofs.YticiemnnfipoiaaW.PrintWords Go.Proofs.YticiemnnfipoiaaW.PrintLast Go.Proofs.Yticiemnnfipoiaa.Sp
theorem awake07 : groatlaw07_awake.f 30 = some true := by decide +kernel
theorem put_len (s f n : Int) : (prePut s f n).1.length ≤ 1000 := by
  unfold prePut
  split
  · rename_i hk
    split
    · rename_i hp
      obtain ⟨-, hf⟩ := preOk_iff hk
      obtain ⟨w, rfl⟩ : ∃ w : Nat, f = (w : Int) := ⟨f.toNat, by omega⟩
      obtain ⟨-, -, -, hw, he⟩ := putNum_ok hp
      have hl : (bl (putNum n (w : Int)).1).length = w := by rw [he, bl_sb, digs_length]
      show (if s = 2 then _ else _ : List UInt8).length ≤ 1000
      split
      · unfold bcdPut; split
        · simp
        · show (pack (even0 _)).length ≤ 1000; rw [pack_len]; omega
      · omega
    · simp
  · simp
theorem pback (s f n : Int) (l : List UInt8) (hl : l.length ≤ 100) (h : (prePut s f n).2 = 0) (k : Nat) (hk : 1200 < k) : groatlaw07_PrefixBack.j0 (k + 1) n (sb l) (sb (prePut s f n).1) false s f = some true := by
  have hp := put_len s f n
  have b1 : l.length + (prePut s f n).1.length ≤ 9223372036854775807 := by omega
  have b2 : (l ++ (prePut s f n).1).length + l.length ≤ 9223372036854775807 := by rw [List.length_append]; omega
  have b3 : (l ++ (prePut s f n).1 ++ l).length ≤ 140737488351232 := by rw [List.length_append, List.length_append]; omega
  have b4 : -9223372036854775808 ≤ (l.length : Int) + ((prePut s f n).1.length : Int) := by omega
  have b5 : (l.length : Int) + ((prePut s f n).1.length : Int) ≤ 9223372036854775807 := by omega
  rw [groatlaw07_PrefixBack.j0, if_neg (by decide), size_sb, size_sb, if_pos b1, sb_append, size_sb, if_pos b2, sb_append, prefix_Get s f _ b3 _ k (by omega), Option.bind_some, preGet_put l l h, wrap64_id b4 b5]
  simp
theorem PrefixBack : groatlaw07_PrefixBack.Pure := by
  intro h n s _ hn hs
  obtain ⟨l, rfl⟩ := ex_sb s
  have hn := (wf_i64 hn).2
  have aw : ∀ k, 30 ≤ k → groatlaw07_awake.f k = some true := fun k hk => at_rounds groatlaw07_awake.mono hk awake07
  have jt : groatlaw07_PrefixBack.j0 1300 n (sb l) (sb (prePut h.f0 h.f1 n).1) true h.f0 h.f1 = some true := by
    simp only [groatlaw07_PrefixBack.j0, if_true]
    rw [aw _ (by decide)]; rfl
  refine ⟨1300, ?_⟩
  unfold groatlaw07_PrefixBack.f
  rw [prefix_Put _ _ n hn _ (by decide), Option.bind_some, aw _ (by decide), Option.bind_some, if_pos rfl, size_sb]
  by_cases h1 : (prePut h.f0 h.f1 n).2 = 0
  · rw [if_pos h1]
    by_cases h2 : (l.length : Int) > 100
    · rw [decide_eq_true h2, jt]
    · rw [decide_eq_false h2]
      exact pback _ _ n l (by omega) h1 1299 (by decide)
  · rw [if_neg h1, jt]
end Go.Proofs.Yticiemnnfipoiaa.Pure
