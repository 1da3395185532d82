/- What the reference's Get of a field answers: the program's. -/
import Derived.Test.YtfaeodcapagjbaaCell
import Derived.Test.YtfaeodcapagjbaaR07g
import Derived.Test.YtfaeodcapagjbaaR03g
import Derived.Test.YtfaeodcapagjbaaR02g
import Derived.Test.YtfaeodcapagjbaaPx21
namespace Go.Proofs.Ytfaeodcapagjbaa.Sp
open Go.RowKit Go.Proofs.YtfaeodcapagjbaaW.PrintWords Go.Proofs.YtfaeodcapagjbaaW.PrintLast Go.Proofs.YtfaeodcapagjbaaW.PrintMore Go.Proofs.Ytfaeodcapagjbaa.P
set_option linter.unusedVariables false
set_option linter.unusedSimpArgs false
theorem ref12_j7 (st no c fo mi ma : Int) (hs : st = 1 ∨ st = 2) (hc : 1 ≤ c ∧ c ≤ 6) (a sz : Nat) (raw : List UInt8) (hr : raw.length ≤ 2000) (n2 : a + sz ≤ 9223372036854775807) (k : Nat) (hk : 4900 < k) :
    groatref12_Get.j7 k st (a : Int) (sz : Int) (sb raw) no c fo mi ma = if cellHow st c = 2 then (if (hexGet raw).2.2 = true then (if specV no c fo mi ma (hexGet raw).1 = 0 then some (sb (hexGet raw).1, ((a + sz : Nat) : Int), 0) else some (sb [], 0, specV no c fo mi ma (hexGet raw).1)) else some (sb [], 0, 3)) else (if specV no c fo mi ma raw = 0 then some (sb raw, ((a + sz : Nat) : Int), 0) else some (sb [], 0, specV no c fo mi ma raw)) := by
  obtain ⟨k, rfl⟩ : ∃ m, k = m + 2 := ⟨k - 2, by omega⟩
  have e2 : (a : Int) + (sz : Int) = ((a + sz : Nat) : Int) := by omega
  simp only [groatref12_Get.j7, groatref12_Get.j8]
  rw [e2, wrap64_nat n2, ref02_Get raw (by omega) _ (by omega), ref11_Value _ _ _ _ _ _ _ (by omega), Option.bind_some, Option.bind_some]
  dsimp only
  rw [ref11_Value _ _ _ _ _ _ _ (by omega), Option.bind_some]
  unfold cellHow
  rcases hs with rfl | rfl
  · by_cases h5 : c ≥ 5
    · have h6 : c = 5 ∨ c = 6 := by omega
      simp [h5, h6]; rfl
    · have h6 : ¬ (c = 5 ∨ c = 6) := by omega
      simp [h5, h6]; rfl
  · by_cases h1 : c = 1
    · simp [h1]; rfl
    · simp [h1]; rfl
theorem ref12_j1 (st no c fo mi ma : Int) (hs : st = 1 ∨ st = 2) (hc : 1 ≤ c ∧ c ≤ 6) (b : List UInt8) (hb : b.length ≤ 140737488351232) (a n : Nat) (ha : a ≤ b.length) (hn : n ≤ 999) (k : Nat) (hk : 5000 < k) : groatref12_Get.j1 k st (sb b) (a : Int) (n : Int) no c fo mi ma = some (sb (cellTake st no c fo mi ma b a n).1, (cellTake st no c fo mi ma b a n).2.1, (cellTake st no c fo mi ma b a n).2.2) := by
  obtain ⟨k, rfl⟩ : ∃ m, k = m + 7 := ⟨k - 7, by omega⟩
  have b1 : n + n ≤ 9223372036854775807 := by omega
  have b2 : n + 1 ≤ 9223372036854775807 := by omega
  have b3 : (n + 1) / 2 ≤ 9223372036854775807 := by omega
  have hw : wrap64 ((n : Int) + (n : Int)) = ((n + n : Nat) : Int) := by rw [show (n : Int) + (n : Int) = ((n + n : Nat) : Int) by omega]; exact wrap64_nat b1
  have hw2 : wrap64 (Int.tdiv (wrap64 ((n : Int) + 1)) 2) = (((n + 1) / 2 : Nat) : Int) := by
    rw [show (n : Int) + 1 = ((n + 1 : Nat) : Int) by omega, wrap64_nat b2, show (2 : Int) = ((2 : Nat) : Int) from rfl, tdiv_nat, wrap64_nat b3]
  have hs5 : groatref12_Get.j1 (k + 7) st (sb b) (a : Int) (n : Int) no c fo mi ma = groatref12_Get.j5 (k + 3) st (sb b) (a : Int) (n : Int) (cellSize (cellHow st c) n : Int) no c fo mi ma := by
    simp only [groatref12_Get.j1, groatref12_Get.j2, groatref12_Get.j3, groatref12_Get.j4]
    rw [hw, hw2]
    unfold cellSize cellHow
    clear hw hw2
    rcases hs with rfl | rfl
    · by_cases h5 : c ≥ 5
      · have h6 : c = 5 ∨ c = 6 := by omega
        simp [h5, h6, Nat.two_mul]
      · have h6 : ¬ (c = 5 ∨ c = 6) := by omega
        simp [h5, h6]
    · by_cases h1 : c = 1
      · simp [h1]
      · simp [h1]
  rw [hs5]
  clear hs5 hw hw2
  have hsz : cellSize (cellHow st c) n ≤ 2000 := by unfold cellSize; repeat' split
                                                    all_goals omega
  unfold cellTake
  generalize hz : cellSize (cellHow st c) n = sz at hsz ⊢
  simp only [groatref12_Get.j5]
  have e1 : (b.length : Int) - (a : Int) = ((b.length - a : Nat) : Int) := by omega
  have n1 : b.length - a ≤ 9223372036854775807 := by omega
  have e2 : (a : Int) + (sz : Int) = ((a + sz : Nat) : Int) := by omega
  have n2 : a + sz ≤ 9223372036854775807 := by omega
  have q1 : 0 ≤ (a : Int) := by omega
  have q2 : (a : Int) ≤ ((a + sz : Nat) : Int) := by omega
  rw [size_sb, e1, e2, wrap64_nat n1, wrap64_nat n2]
  by_cases h0 : ((b.length - a : Nat) : Int) < (sz : Int)
  · rw [if_pos h0, if_pos h0]; rfl
  · have q3 : ((a + sz : Nat) : Int) ≤ (b.length : Int) := by omega
    have hraw : ((b.drop a).take sz).length = sz := by rw [List.length_take, List.length_drop]; omega
    rw [if_neg h0, if_neg h0, if_pos q1, if_pos q2, if_pos q3, Int.toNat_natCast, Int.toNat_natCast, cut_sb]
    generalize hr : (b.drop a).take sz = raw at hraw ⊢
    have hj6 : ∀ x : Bool, x = decide (cellHow st c = 1) → groatref12_Get.j6 (k + 2) st (a : Int) (n : Int) (sz : Int) (sb raw) x no c fo mi ma = some (sb (if (cellText (cellHow st c) raw (n : Int)).2 ≠ 0 then (([] : List UInt8), (0 : Int), (cellText (cellHow st c) raw (n : Int)).2)
  else if specV no c fo mi ma (cellText (cellHow st c) raw (n : Int)).1 ≠ 0 then ([], 0, specV no c fo mi ma (cellText (cellHow st c) raw (n : Int)).1)
  else ((cellText (cellHow st c) raw (n : Int)).1, ((a + sz : Nat) : Int), 0)).1, (if (cellText (cellHow st c) raw (n : Int)).2 ≠ 0 then (([] : List UInt8), (0 : Int), (cellText (cellHow st c) raw (n : Int)).2)
  else if specV no c fo mi ma (cellText (cellHow st c) raw (n : Int)).1 ≠ 0 then ([], 0, specV no c fo mi ma (cellText (cellHow st c) raw (n : Int)).1)
  else ((cellText (cellHow st c) raw (n : Int)).1, ((a + sz : Nat) : Int), 0)).2.1, (if (cellText (cellHow st c) raw (n : Int)).2 ≠ 0 then (([] : List UInt8), (0 : Int), (cellText (cellHow st c) raw (n : Int)).2)
  else if specV no c fo mi ma (cellText (cellHow st c) raw (n : Int)).1 ≠ 0 then ([], 0, specV no c fo mi ma (cellText (cellHow st c) raw (n : Int)).1)
  else ((cellText (cellHow st c) raw (n : Int)).1, ((a + sz : Nat) : Int), 0)).2.2) := by
      intro x hx
      subst hx
      simp only [groatref12_Get.j6]
      by_cases h1 : cellHow st c = 1
      · rw [decide_eq_true h1, if_pos rfl, ref03_Get raw (by omega) _ (by omega) _ (by omega), Option.bind_some]
        dsimp only
        unfold cellText
        simp only [h1, if_true]
        by_cases h2 : (bcdGet raw (n : Int)).2.1 = 0
        · rw [if_pos h2, if_neg (not_not_intro h2)]
          by_cases hl2 : (bcdGet raw (n : Int)).1.length ≤ 2000
          · rw [ref12_j7 st no c fo mi ma hs hc a sz _ hl2 n2 _ (by omega), h1, if_neg (by decide)]
            by_cases h3 : specV no c fo mi ma (bcdGet raw (n : Int)).1 = 0
            · rw [if_pos h3, if_neg (not_not_intro h3)]
            · rw [if_neg h3, if_pos h3]
          · exfalso
            obtain ⟨p, hp⟩ : ∃ p, bcdGet raw (n : Int) = ((bcdGet raw (n : Int)).1, 0, p) := ⟨(bcdGet raw (n : Int)).2.2, by rw [← h2]⟩
            have := bcdGet_ok hp
            omega
        · rw [if_neg h2, if_pos h2]; rfl
      · rw [decide_eq_false h1, if_neg (by decide), ref12_j7 st no c fo mi ma hs hc a sz _ (by omega) n2 _ (by omega)]
        unfold cellText
        simp only [h1, if_false]
        by_cases h2 : cellHow st c = 2
        · simp only [h2, if_true]
          by_cases h4 : (hexGet raw).2.2 = true
          · simp only [h4, if_true]
            rw [if_neg (show ¬ ((0 : Int) ≠ 0) by decide)]
            by_cases h3 : specV no c fo mi ma (hexGet raw).1 = 0
            · rw [if_pos h3, if_neg (not_not_intro h3)]
            · rw [if_neg h3, if_pos h3]
          · simp only [h4, if_false]
            rfl
        · simp only [h2, if_false]
          rw [if_neg (show ¬ ((0 : Int) ≠ 0) by decide)]
          by_cases h3 : specV no c fo mi ma raw = 0
          · rw [if_pos h3, if_neg (not_not_intro h3)]
          · rw [if_neg h3, if_pos h3]
    by_cases h2 : st = 2
    · rw [if_pos h2]
      exact hj6 _ (by unfold cellHow; by_cases hc1 : c = 1 <;> simp [h2, hc1])
    · rw [if_neg h2]
      exact hj6 _ (by unfold cellHow; simp [h2]; split <;> decide)
theorem ref12_Get (st no c fo mi ma : Int) (b : List UInt8) (hb : b.length ≤ 140737488351232) (at_ : Int) (k : Nat) (hk : 5010 < k) : groatref12_Get.f k st no c fo mi ma (sb b) at_ = some (sb (cellGet st no c fo mi ma b at_).1, (cellGet st no c fo mi ma b at_).2.1, (cellGet st no c fo mi ma b at_).2.2) := by
  obtain ⟨k, rfl⟩ : ∃ m, k = m + 1 := ⟨k - 1, by omega⟩
  have hbad : groatref12_Get.j0 (k + 1) st (sb b) at_ true no c fo mi ma = some (sb [], 0, 1) := by simp only [groatref12_Get.j0, if_true]; rfl
  have hgo : (st = 1 ∨ st = 2) → ((groatref11_Check.f (k + 1) no c fo mi ma).bind fun t => (if t = 0 then (if at_ < 0 then (groatref12_Get.j0 (k + 1) st (sb b) at_ true no c fo mi ma) else (groatref12_Get.j0 (k + 1) st (sb b) at_ (decide (at_ > ((sb b).size : Int))) no c fo mi ma)) else (groatref12_Get.j0 (k + 1) st (sb b) at_ true no c fo mi ma))) = some (sb (cellGet st no c fo mi ma b at_).1, (cellGet st no c fo mi ma b at_).2.1, (cellGet st no c fo mi ma b at_).2.2) := by
    intro h1
    unfold cellGet
    rw [ref11_Check _ _ _ _ _ _ (by omega), Option.bind_some]
    by_cases h2 : specE no c fo mi ma = 0
    · rw [if_pos h2]
      by_cases h3 : at_ < 0
      · rw [if_pos h3, if_pos (by intro h; omega), hbad]
      · rw [if_neg h3, size_sb]
        by_cases h4 : at_ > (b.length : Int)
        · rw [decide_eq_true h4, if_pos (by intro h; omega), hbad]
        · have hz := specE_zero h2
          rw [decide_eq_false h4, if_neg (not_not_intro ⟨h1, h2, by omega, by omega⟩)]
          obtain ⟨a, rfl⟩ : ∃ m : Nat, at_ = (m : Int) := ⟨at_.toNat, by omega⟩
          simp only [groatref12_Get.j0]
          rw [if_neg (by decide)]
          by_cases h5 : fo = 1
          · obtain ⟨n, hn⟩ : ∃ m : Nat, ma = (m : Int) := ⟨ma.toNat, by omega⟩
            have hm : mi.toNat = n := by have := hz.2.2.2.2.2.2.2.1 h5; omega
            rw [if_pos h5, if_pos h5, hm, hn]
            rw [ref12_j1 _ _ _ _ _ _ h1 hz.2.1 _ hb _ _ (by omega) (by omega) _ (by omega), Int.toNat_natCast]
          · rw [if_neg h5, if_neg h5, ref07_Get _ _ _ hb _ _ (by omega), Option.bind_some]
            by_cases h6 : (preGet st fo b (a : Int)).2.2 = 0
            · rw [if_pos h6, if_neg (not_not_intro h6)]
              obtain ⟨⟨n, nx, e⟩, hp⟩ : ∃ r, preGet st fo b (a : Int) = r := ⟨_, rfl⟩
              rw [hp] at h6 ⊢
              dsimp only at h6 ⊢
              subst h6
              obtain ⟨-, p1, p2, p3, p4, p5, p6⟩ := prePut_get hp
              by_cases h7 : n < mi
              · rw [if_pos h7, if_pos (Or.inl h7)]; rfl
              · rw [if_neg h7]
                by_cases h8 : n > ma
                · rw [if_pos h8, if_pos (Or.inr h8)]; rfl
                · rw [if_neg h8, if_neg (by omega)]
                  obtain ⟨n', rfl⟩ : ∃ m : Nat, n = (m : Int) := ⟨n.toNat, by omega⟩
                  obtain ⟨x, rfl⟩ : ∃ m : Nat, nx = (m : Int) := ⟨nx.toNat, by omega⟩
                  rw [ref12_j1 _ _ _ _ _ _ h1 hz.2.1 _ hb _ _ (by omega) (by omega) _ (by omega), Int.toNat_natCast, Int.toNat_natCast]
            · rw [if_neg h6, if_pos h6]; rfl
    · rw [if_neg h2, if_pos (by intro h; exact h2 h.2.1), hbad]
  unfold groatref12_Get.f
  by_cases h1 : st = 1
  · rw [if_pos h1]; exact hgo (Or.inl h1)
  · rw [if_neg h1]
    by_cases h2 : st = 2
    · rw [if_pos h2]; exact hgo (Or.inr h2)
    · rw [if_neg h2, hbad]
      unfold cellGet
      rw [if_pos (by rintro ⟨h | h, -⟩ <;> contradiction)]
end Go.Proofs.Ytfaeodcapagjbaa.Sp
