/- CellParts: what stands ahead of a field, and behind it, plays no part. -/
import Derived.Test.YtfaeodcapagjbaaCellN
import Derived.Test.YtfaeodcapagjbaaCellA
import Derived.Test.YtfaeodcapagjbaaPx24
namespace Go.Proofs.Ytfaeodcapagjbaa.Pure
open Go.RowKit Go.Proofs.Ytfaeodcapagjbaa.P Go.Proofs.YtfaeodcapagjbaaW.PrintWords Go.Proofs.YtfaeodcapagjbaaW.PrintLast Go.Proofs.Ytfaeodcapagjbaa.Sp
set_option linter.unusedVariables false
set_option linter.unusedSimpArgs false
theorem parts_end (no c fo mi ma : Int) (b a r : List UInt8) (k : Nat) : groatlaw12_CellParts.l0 (k + 1) (sb b) 3 no c fo mi ma (sb a) (sb r) = some true := by
  simp only [groatlaw12_CellParts.l0]
  rw [if_neg (by decide)]
theorem parts_step (no c fo mi ma : Int) (b a r : List UInt8) (hb : b.length ≤ 2500) (ha : a.length ≤ 100) (hr : r.length ≤ 100) (st : Int) (hst : st ≤ 2) (k K : Nat) (hk : 5000 < k) (hK : K ≤ k) (hn : ∀ k, K ≤ k → groatlaw12_CellParts.l0 k (sb b) (wrap64 (st + 1)) no c fo mi ma (sb a) (sb r) = some true) : groatlaw12_CellParts.l0 (k + 2) (sb b) st no c fo mi ma (sb a) (sb r) = some true := by
  have b1 : a.length + b.length ≤ 9223372036854775807 := by omega
  have b2 : b.length + r.length ≤ 9223372036854775807 := by omega
  have hab : (a ++ b).length ≤ 140737488351232 := by rw [List.length_append]; omega
  have hbr : (b ++ r).length ≤ 140737488351232 := by rw [List.length_append]; omega
  have hg := get_ahead st no c fo mi ma a b
  obtain ⟨⟨t, nx, e⟩, ht⟩ : ∃ x, cellGet st no c fo mi ma b 0 = x := ⟨_, rfl⟩
  rw [ht] at hg
  dsimp only at hg
  have hj : ∀ x, x = false → groatlaw12_CellParts.j2 (k + 1) (sb b) st (sb t) nx e x no c fo mi ma (sb a) (sb r) = some true := by
    intro x hx
    subst hx
    simp only [groatlaw12_CellParts.j2]
    rw [if_neg (by decide)]
    by_cases he : e = 0
    · subst he
      rw [if_pos rfl, size_sb, size_sb, if_pos b2, sb_append, cell_Get _ _ _ _ _ _ _ hbr _ _ (by omega), get_behind r ht, Option.bind_some]
      dsimp only
      rw [if_pos rfl, if_pos rfl, if_pos rfl]
      exact hn k hK
    · rw [if_neg he]
      exact hn k hK
  simp only [groatlaw12_CellParts.l0]
  rw [if_pos hst, cell_Get _ _ _ _ _ _ _ (by omega) _ _ (by omega), Option.bind_some, ht, size_sb, size_sb, if_pos b1, sb_append, cell_Get _ _ _ _ _ _ _ hab _ _ (by omega), Option.bind_some, hg]
  dsimp only
  rw [if_pos rfl, if_pos rfl]
  by_cases he : e = 0
  · subst he
    obtain ⟨-, -, -, x, rfl, -, hx, -⟩ := put_get (a := 0) ht
    have n1 : x + a.length ≤ 9223372036854775807 := by omega
    have e1 : (x : Int) + (a.length : Int) = ((x + a.length : Nat) : Int) := by omega
    rw [if_pos rfl, if_pos rfl, e1, wrap64_nat n1]
    exact hj _ (by simp)
  · rw [if_neg he]
    exact hj _ rfl
theorem CellParts : groatlaw12_CellParts.Pure := by
  intro s text more hs ht hm
  obtain ⟨b, rfl⟩ := ex_sb text
  obtain ⟨a, ha⟩ := ex_sb more.f0
  obtain ⟨r, hr⟩ := ex_sb more.f1
  rw [ha, hr]
  refine ⟨9001, ?_⟩
  have e1 : groatlaw12_awake.f 9001 = some true := at_rounds groatlaw12_awake.mono (by decide) awake12
  have e2 : groatlaw12_awake.f 9000 = some true := at_rounds groatlaw12_awake.mono (by decide) awake12
  have hbad : groatlaw12_CellParts.j0 9001 (sb b) true s.f0 s.f1 s.f2 s.f3 s.f4 (sb a) (sb r) = some true := by
    simp only [groatlaw12_CellParts.j0, if_true]
    rw [e2]; rfl
  unfold groatlaw12_CellParts.f
  rw [e1, Option.bind_some, if_pos rfl, size_sb, size_sb, size_sb, hbad]
  by_cases h1 : (b.length : Int) > 2500
  · rw [if_pos h1]
  · rw [if_neg h1]
    by_cases h2 : (a.length : Int) > 100
    · rw [if_pos h2]
    · rw [if_neg h2]
      by_cases h3 : (r.length : Int) > 100
      · rw [decide_eq_true h3, hbad]
      · rw [decide_eq_false h3]
        simp only [groatlaw12_CellParts.j0]
        rw [if_neg (by decide)]
        have w1 : wrap64 (1 + 1) = 2 := wr2
        have w2 : wrap64 (2 + 1) = 3 := wr3
        have l3 : ∀ k, 1 ≤ k → groatlaw12_CellParts.l0 k (sb b) (wrap64 (2 + 1)) s.f0 s.f1 s.f2 s.f3 s.f4 (sb a) (sb r) = some true := by
          intro k hk
          rw [w2]
          clear w1 w2
          obtain ⟨k, rfl⟩ : ∃ m, k = m + 1 := ⟨k - 1, by omega⟩
          exact parts_end _ _ _ _ _ _ _ _ _
        have l2 : ∀ k, 5003 ≤ k → groatlaw12_CellParts.l0 k (sb b) (wrap64 (1 + 1)) s.f0 s.f1 s.f2 s.f3 s.f4 (sb a) (sb r) = some true := by
          intro k hk
          rw [w1]
          clear w1 w2
          obtain ⟨k, rfl⟩ : ∃ m, k = m + 2 := ⟨k - 2, by omega⟩
          exact parts_step _ _ _ _ _ _ _ _ (by omega) (by omega) (by omega) 2 (by decide) k 1 (by omega) (by omega) l3
        clear w1 w2 l3
        exact parts_step _ _ _ _ _ _ _ _ (by omega) (by omega) (by omega) 1 (by decide) 8998 5003 (by decide) (by decide) l2
end Go.Proofs.Ytfaeodcapagjbaa.Pure
