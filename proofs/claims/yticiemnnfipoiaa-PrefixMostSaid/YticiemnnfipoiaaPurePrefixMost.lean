/- PrefixMost: the greatest length of a form can be told by it, one more can't; of no other form can any. No conditions beyond the statement's own. -/
import Derived.Test.YticiemnnfipoiaaPreP
import Derived.Test.YticiemnnfipoiaaWf
import Derived.Test.YticiemnnfipoiaaPx7
import Derived.Test.YticiemnnfipoiaaPx8
namespace Go.Proofs.Yticiemnnfipoiaa.Pure
open Go.RowKit Go.Proofs.Yticiemnnfipoiaa.P Go.Proofs.YticiemnnfipoiaaW.PrintWords Go.Proofs.YticiemnnfipoiaaW.PrintLast Go.Proofs.YticiemnnfipoiaaW.PrintMore Go.Proofs.Yticiemnnfipoiaa.Sp
theorem awake07 : groatlaw07_awake.f 30 = some true := by decide +kernel
theorem most2 : prefix_Most.f 10 2 = some 99 := by decide +kernel
theorem most3 : prefix_Most.f 10 3 = some 999 := by decide +kernel
theorem prefix_Most (f : Int) : prefix_Most.f 10 f = some (preMost f) := by
  unfold preMost
  by_cases h : f = 2
  · subst h; exact most2
  · rw [if_neg h]
    by_cases h' : f = 3
    · subst h'; exact most3
    · rw [if_neg h']
      unfold prefix_Most.f
      rw [prefix_width, Option.bind_some, if_neg (by omega)]
      simp [prefix_Most.l0]
theorem put_bad (s f n : Int) (h : preOk s f = false) : (prePut s f n).2 = 1 := by unfold prePut; rw [h]; rfl
theorem put_err (s f n : Int) (h : preOk s f = true) : (prePut s f n).2 = if (putNum n f).2 = true then 0 else 5 := by unfold prePut; rw [if_pos h]; split <;> rfl
theorem pn2 (n : Int) : (putNum n 2).2 = decide (0 ≤ n ∧ n < 100) := by
  unfold putNum
  have e : (10 : Nat) ^ (2 : Int).toNat = 100 := rfl
  rw [e]
  by_cases h : 0 ≤ n ∧ n < 100
  · rw [if_neg (by omega), decide_eq_true h]
  · rw [if_pos (by omega), decide_eq_false h]
theorem pn3 (n : Int) : (putNum n 3).2 = decide (0 ≤ n ∧ n < 1000) := by
  unfold putNum
  have e : (10 : Nat) ^ (3 : Int).toNat = 1000 := rfl
  rw [e]
  by_cases h : 0 ≤ n ∧ n < 1000
  · rw [if_neg (by omega), decide_eq_true h]
  · rw [if_pos (by omega), decide_eq_false h]
theorem put2 (s n : Int) (hs : s = 1 ∨ s = 2) : (prePut s 2 n).2 = if decide (0 ≤ n ∧ n < 100) = true then 0 else 5 := by rw [put_err s 2 n (decide_eq_true ⟨hs, .inl rfl⟩), pn2]
theorem put3 (s n : Int) (hs : s = 1 ∨ s = 2) : (prePut s 3 n).2 = if decide (0 ≤ n ∧ n < 1000) = true then 0 else 5 := by rw [put_err s 3 n (decide_eq_true ⟨hs, .inr rfl⟩), pn3]
theorem most_le (f : Int) : 0 ≤ preMost f ∧ preMost f ≤ 999 := by unfold preMost; split; omega; split <;> omega
theorem PrefixMost : groatlaw07_PrefixMost.Pure := by
  intro s f hs hf
  have hm := most_le f
  have e1 : mn (preMost f) 1073741824 = preMost f := by unfold mn; rw [if_neg (by omega)]
  have e2 : wrap64 (preMost f + 1) = preMost f + 1 := wrap64_id (by omega) (by omega)
  refine ⟨1200, ?_⟩
  unfold groatlaw07_PrefixMost.f
  rw [at_rounds (prefix_Most.mono f) (by decide : 10 ≤ 1200) (prefix_Most f), Option.bind_some, prefix_Put _ _ _ (by omega) _ (by decide), Option.bind_some, e1, e2, prefix_Put _ _ _ (by omega) _ (by decide), Option.bind_some, at_rounds groatlaw07_awake.mono (by decide : 30 ≤ 1200) awake07, Option.bind_some, if_pos rfl]
  have aw : groatlaw07_awake.f 1199 = some true := at_rounds groatlaw07_awake.mono (by decide) awake07
  have tail : (s = 1 ∨ s = 2) → groatlaw07_PrefixMost.j0 1200 f (preMost f) (prePut s f (preMost f)).2 (prePut s f (preMost f + 1)).2 false = some true := by
    intro hs
    show groatlaw07_PrefixMost.j0 (1199 + 1) _ _ _ _ _ = _
    rw [groatlaw07_PrefixMost.j0, if_neg (by decide)]
    by_cases h2 : f = 2
    · subst h2
      rw [if_pos rfl, put2 s _ hs, put2 s _ hs]; rfl
    · rw [if_neg h2]
      by_cases h3 : f = 3
      · subst h3
        rw [if_pos rfl, put3 s _ hs, put3 s _ hs]; rfl
      · have hk : preOk s f = false := decide_eq_false (by omega)
        have hm0 : preMost f = 0 := by unfold preMost; rw [if_neg h2, if_neg h3]
        rw [if_neg h3, put_bad s f _ hk, put_bad s f _ hk, if_pos hm0]; rfl
  by_cases h1 : s = 1
  · rw [if_pos h1]; exact tail (.inl h1)
  · rw [if_neg h1]
    by_cases h2 : s = 2
    · have : (s != 2) = false := by simp [h2]
      rw [this]; exact tail (.inr h2)
    · have : (s != 2) = true := by simp [h2]
      have hk : preOk s f = false := decide_eq_false (by omega)
      rw [this]
      show groatlaw07_PrefixMost.j0 (1199 + 1) _ _ _ _ _ = _
      rw [groatlaw07_PrefixMost.j0, if_pos rfl, aw, Option.bind_some, if_pos rfl, put_bad s f _ hk, put_bad s f _ hk]; rfl
end Go.Proofs.Yticiemnnfipoiaa.Pure
