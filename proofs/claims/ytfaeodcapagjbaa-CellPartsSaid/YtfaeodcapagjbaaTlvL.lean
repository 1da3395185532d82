/- What the program's and the reference's readers of lists of tags and values answer: the same. -/
import Derived.Test.YtfaeodcapagjbaaTlv
import Derived.Test.YtfaeodcapagjbaaPx11
namespace Go.Proofs.Ytfaeodcapagjbaa.Sp
open Go.RowKit Go.Proofs.YtfaeodcapagjbaaW.PrintWords Go.Proofs.YtfaeodcapagjbaaW.PrintLast Go.Proofs.YtfaeodcapagjbaaW.PrintMore Go.Proofs.Ytfaeodcapagjbaa.P
set_option linter.unusedVariables false
set_option linter.unusedSimpArgs false
theorem has_l (xs : List S74) (t : Int) (hl : xs.length < 5864062014805) : ∀ d k j, j + d = xs.length → d + 1 < k → groatref10_has.l0 k xs (xs.length : Int) t (j : Int) = some ((xs.drop j).any (fun x => x.f0 == t))
  | 0, k, j, hd, hk => by
    obtain ⟨k, rfl⟩ : ∃ m, k = m + 1 := ⟨k - 1, by omega⟩
    simp only [groatref10_has.l0]
    rw [if_neg (by omega), List.drop_of_length_le (by omega)]; rfl
  | d + 1, k, j, hd, hk => by
    obtain ⟨k, rfl⟩ : ∃ m, k = m + 1 := ⟨k - 1, by omega⟩
    have hj : j < xs.length := by omega
    have b1 : (j : Int) < (xs.length : Int) := by omega
    have b2 : 0 ≤ (j : Int) := by omega
    have b3 : j < 9223372036854775807 := by omega
    have ih := has_l xs t hl d k (j + 1) (by omega) (by omega)
    have e : rd_T74 xs (j : Int) = xs[j] := by
      unfold rd_T74
      rw [Int.toNat_natCast, List.getD_eq_getElem?_getD, List.getElem?_eq_getElem hj, Option.getD_some]
    simp only [groatref10_has.l0]
    rw [if_pos b1, if_pos b2, if_pos b1, e, wrap64_succ b3, ih, List.drop_eq_getElem_cons hj, List.any_cons]
    by_cases hx : (xs[j]).f0 = t
    · rw [if_pos hx]; simp [hx]
    · rw [if_neg hx]; simp [hx]
theorem has_f (xs : List S74) (t : Int) (hl : xs.length < 5864062014805) (k : Nat) (hk : xs.length + 1 < k) : groatref10_has.f k xs (xs.length : Int) t = some (xs.any (fun x => x.f0 == t)) :=
  has_l xs t hl xs.length k 0 (by omega) hk
theorem tlv_both (l : List UInt8) (hl : l.length < 5864062014805) : ∀ (d k k' i : Nat) (xs : List S74), l.length ≤ i + d → i ≤ l.length → xs.length ≤ i → d + 20 ≤ k → d + l.length + 20 ≤ k' →
    ∃ r, tlv_Get.l0 k (sb l) xs (i : Int) = some r ∧ groatref10_Get.l0 k' (sb l) xs (i : Int) = some r := by
  intro d
  induction d with
  | zero =>
    intro k k' i xs h1 h2 h3 h4 h5
    obtain ⟨k, rfl⟩ : ∃ m, k = m + 1 := ⟨k - 1, by omega⟩
    obtain ⟨k', rfl⟩ : ∃ m, k' = m + 1 := ⟨k' - 1, by omega⟩
    have b1 : ¬ (i : Int) < (l.length : Int) := by omega
    simp only [tlv_Get.l0, groatref10_Get.l0]
    rw [size_sb, if_neg b1, if_neg b1]
    exact ⟨_, rfl, rfl⟩
  | succ d ih =>
    intro k k' i xs h1 h2 h3 h4 h5
    obtain ⟨k, rfl⟩ : ∃ m, k = m + 1 := ⟨k - 1, by omega⟩
    obtain ⟨k', rfl⟩ : ∃ m, k' = m + 1 := ⟨k' - 1, by omega⟩
    simp only [tlv_Get.l0, groatref10_Get.l0]
    rw [size_sb]
    by_cases b1 : (i : Int) < (l.length : Int)
    · rw [if_pos b1, if_pos b1, tag_Get l (by omega) i h2 k (by omega), ref08_Get l (by omega) i h2 k' (by omega), Option.bind_some, Option.bind_some]
      obtain ⟨⟨t, nx, e⟩, ht⟩ : ∃ r, tagR i (l.drop i) = r := ⟨_, rfl⟩
      rw [ht]
      dsimp only
      by_cases he : e = 0
      · rw [if_pos he, if_pos he]
        obtain ⟨htr, w, hw1, hw2, rfl⟩ := tagR_ok i _ (by rw [List.length_drop]; omega) ht he
        rw [List.length_drop] at hw2
        rw [ber_Get l (by omega) (i + w) (by omega) k (by omega), ref09_Get l (by omega) (i + w) (by omega) k' (by omega), Option.bind_some, Option.bind_some]
        obtain ⟨⟨n, fr, e2⟩, hb⟩ : ∃ r, berR (i + w) (l.drop (i + w)) = r := ⟨_, rfl⟩
        rw [hb]
        dsimp only
        by_cases he2 : e2 = 0
        · rw [if_pos he2, if_pos he2]
          obtain ⟨hnr, w', hw3, hw4, rfl⟩ := berR_ok (i + w) _ (by rw [List.length_drop]; omega) hb he2
          rw [List.length_drop] at hw4
          obtain ⟨n, rfl⟩ : ∃ m : Nat, n = (m : Int) := ⟨n.toNat, by omega⟩
          have hx : xs.length < 5864062014805 := by omega
          have hk : xs.length + 1 < k' := by omega
          have q1 : 0 ≤ ((i + w + w' : Nat) : Int) := by omega
          have n1 : l.length - (i + w + w') ≤ 9223372036854775807 := by omega
          have n2 : i + w + w' + n ≤ 9223372036854775807 := by omega
          have e1 : (l.length : Int) - ((i + w + w' : Nat) : Int) = ((l.length - (i + w + w') : Nat) : Int) := by omega
          have e3 : ((i + w + w' : Nat) : Int) + (n : Int) = ((i + w + w' + n : Nat) : Int) := by omega
          have q2 : ((i + w + w' : Nat) : Int) ≤ ((i + w + w' + n : Nat) : Int) := by omega
          rw [e1, e3, wrap64_nat n1, wrap64_nat n2, if_pos htr, if_pos hx, has_f xs t hx k' hk, Option.bind_some]
          by_cases c1 : ((l.length - (i + w + w') : Nat) : Int) < (n : Int)
          · rw [if_pos c1, if_pos c1]
            exact ⟨_, rfl, rfl⟩
          · have q3 : ((i + w + w' + n : Nat) : Int) ≤ (l.length : Int) := by omega
            rw [if_neg c1, if_neg c1]
            by_cases c2 : xs.any (fun x => x.f0 == t) = true
            · rw [if_pos c2, if_pos c2]
              exact ⟨_, rfl, rfl⟩
            · rw [if_neg c2, if_neg c2, if_pos q1, if_pos q1, if_pos q2, if_pos q2, if_pos q3, if_pos q3, if_pos hx]
              exact ih k k' (i + w + w' + n) _ (by omega) (by omega) (by rw [List.length_append]; simp; omega) (by omega) (by omega)
        · rw [if_neg he2, if_neg he2]
          exact ⟨_, rfl, rfl⟩
      · rw [if_neg he, if_neg he]
        exact ⟨_, rfl, rfl⟩
    · rw [if_neg b1, if_neg b1]
      exact ⟨_, rfl, rfl⟩
/-- What is wrong with some bytes as a list of tags and values; 0: nothing. -/
noncomputable def tlvErr (l : List UInt8) : Int := ((tlv_Get.f (l.length + 20) (sb l)).getD ([], 0, 0)).2.1
theorem tlv_Get (l : List UInt8) (hl : l.length < 5864062014805) (k : Nat) (hk : l.length + 20 ≤ k) : ∃ xs p, tlv_Get.f k (sb l) = some (xs, tlvErr l, p) := by
  obtain ⟨r, h1, h2⟩ := tlv_both l hl l.length (l.length + 20) (l.length + l.length + 20) 0 [] (by omega) (by omega) (by simp) (by omega) (by omega)
  have h3 : tlv_Get.f (l.length + 20) (sb l) = some r := h1
  have h4 := at_rounds (tlv_Get.mono (sb l)) hk h3
  refine ⟨r.1, r.2.2, ?_⟩
  rw [h4, tlvErr, h3]; rfl
theorem ref10_Get (l : List UInt8) (hl : l.length < 5864062014805) (k : Nat) (hk : l.length + l.length + 20 ≤ k) : ∃ xs p, groatref10_Get.f k (sb l) = some (xs, tlvErr l, p) := by
  obtain ⟨r, h1, h2⟩ := tlv_both l hl l.length (l.length + 20) (l.length + l.length + 20) 0 [] (by omega) (by omega) (by simp) (by omega) (by omega)
  have h3 : tlv_Get.f (l.length + 20) (sb l) = some r := h1
  have h5 : groatref10_Get.f (l.length + l.length + 20) (sb l) = some r := h2
  have h4 := at_rounds (groatref10_Get.mono (sb l)) hk h5
  refine ⟨r.1, r.2.2, ?_⟩
  rw [h4, tlvErr, h3]; rfl
end Go.Proofs.Ytfaeodcapagjbaa.Sp
