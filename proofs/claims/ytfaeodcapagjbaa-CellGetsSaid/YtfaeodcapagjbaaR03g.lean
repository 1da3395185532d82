/- What the reference's Get on packed digits answers. -/
import Derived.Test.YtfaeodcapagjbaaBcdS
import Derived.Test.YtfaeodcapagjbaaPx20
namespace Go.Proofs.Ytfaeodcapagjbaa.Sp
open Go.RowKit Go.Proofs.YtfaeodcapagjbaaW.PrintWords Go.Proofs.YtfaeodcapagjbaaW.PrintLast Go.Proofs.YtfaeodcapagjbaaW.PrintMore Go.Proofs.Ytfaeodcapagjbaa.P
set_option linter.unusedVariables false
set_option linter.unusedSimpArgs false
theorem rg256 : ∀ n : Fin 256, (Int.tdiv ((n.val : Nat) : Int) 16) % 256 = ((n.val / 16 : Nat) : Int) ∧ Int.tmod ((n.val : Nat) : Int) 16 = ((n.val % 16 : Nat) : Int) ∧ (48 + ((n.val / 16 : Nat) : Int)) % 256 = ((48 + n.val / 16 : Nat) : Int) ∧ (48 + ((n.val % 16 : Nat) : Int)) % 256 = ((48 + n.val % 16 : Nat) : Int) := by decide +kernel
/-- A high half. -/
theorem ref03_hi (b : List UInt8) (hb : b.length ≤ 140737488351232) (sz : Nat) (c : UInt8) (m o : List UInt8) (ho : o.length ≤ 2000) (i k : Nat) (hm : b.drop i = c :: m) (hi : i < sz) (hsz : sz ≤ 1000) :
    groatref03_Get.l0 (k + 2) (sb b) (sz : Int) (sb o) ((2 * i : Nat) : Int) = if 9 < c.toNat / 16 then some (sb [], 3, (i : Int)) else groatref03_Get.l0 k (sb b) (sz : Int) (sb (o ++ [u8 (48 + c.toNat / 16)])) ((2 * i + 1 : Nat) : Int) := by
  have hlb := len_drop hm
  have hc := u8_lt c
  obtain ⟨g1, -, g3, -⟩ := rg256 ⟨c.toNat, hc⟩
  simp only at g1 g3
  have c1 : -9223372036854775808 ≤ 2 * (sz : Int) := by omega
  have c2 : 2 * (sz : Int) ≤ 9223372036854775807 := by omega
  have c3 : ((2 * i : Nat) : Int) < 2 * (sz : Int) := by omega
  have c4 : ¬ (((2 * i : Nat) : Int) = 1) := by omega
  have t1 : Int.tdiv ((2 * i : Nat) : Int) 2 = (i : Int) := (tdiv_nat (2 * i) 2).trans (by rw [show 2 * i / 2 = i by omega])
  have t2 : ¬ (Int.tmod ((2 * i : Nat) : Int) 2 = 1) := by rw [show Int.tmod ((2 * i : Nat) : Int) 2 = ((2 * i % 2 : Nat) : Int) from tmod_nat (2 * i) 2]; omega
  have b1 : 0 ≤ (i : Int) := by omega
  have b2 : (i : Int) < (b.length : Int) := by omega
  have b3 : i ≤ 9223372036854775807 := by omega
  have b4 : 2 * i < 9223372036854775807 := by omega
  have b5 : o.length + 1 ≤ 9223372036854775807 := by omega
  rw [groatref03_Get.l0, wrap64_id c1 c2, if_pos c3, if_neg c4, groatref03_Get.j2, if_neg (by decide), t1, wrap64_nat b3, if_pos b1, if_pos (by rw [size_sb]; exact b2), if_neg t2, bt_drop hm, g1]
  by_cases h : 9 < c.toNat / 16
  · rw [if_pos (by omega), if_pos h]; rfl
  · rw [if_neg (by omega), if_neg h, g3]
    simp only [Option.bind_some]
    rw [strOne, size_sb, size_sb, if_pos (show o.length + [_].length ≤ 9223372036854775807 from b5), sb_append, wrap64_succ b4]
/-- A low half. -/
theorem ref03_lo (b : List UInt8) (hb : b.length ≤ 140737488351232) (sz : Nat) (c : UInt8) (m o : List UInt8) (ho : o.length ≤ 2000) (i k : Nat) (hm : b.drop i = c :: m) (hi : i < sz) (hsz : sz ≤ 1000) (x : Bool) (hx : x = true ↔ (i = 0 ∧ o = [] ∧ (b[0]?.getD 0).toNat / 16 ≠ 0)) :
    groatref03_Get.l0 (k + 2) (sb b) (sz : Int) (sb o) ((2 * i + 1 : Nat) : Int) = if x = true then some (sb [], 4, 0) else if 9 < c.toNat % 16 then some (sb [], 3, (i : Int)) else groatref03_Get.l0 k (sb b) (sz : Int) (sb (o ++ [u8 (48 + c.toNat % 16)])) ((2 * (i + 1) : Nat) : Int) := by
  have hlb := len_drop hm
  have hc := u8_lt c
  obtain ⟨-, g2, -, g4⟩ := rg256 ⟨c.toNat, hc⟩
  simp only at g2 g4
  have c1 : -9223372036854775808 ≤ 2 * (sz : Int) := by omega
  have c2 : 2 * (sz : Int) ≤ 9223372036854775807 := by omega
  have c3 : ((2 * i + 1 : Nat) : Int) < 2 * (sz : Int) := by omega
  have t1 : Int.tdiv ((2 * i + 1 : Nat) : Int) 2 = (i : Int) := (tdiv_nat (2 * i + 1) 2).trans (by rw [show (2 * i + 1) / 2 = i by omega])
  have t2 : Int.tmod ((2 * i + 1 : Nat) : Int) 2 = 1 := (tmod_nat (2 * i + 1) 2).trans (by rw [show (2 * i + 1) % 2 = 1 by omega]; rfl)
  have b1 : 0 ≤ (i : Int) := by omega
  have b2 : (i : Int) < (b.length : Int) := by omega
  have b3 : i ≤ 9223372036854775807 := by omega
  have b4 : 2 * i + 1 < 9223372036854775807 := by omega
  have b5 : o.length + 1 ≤ 9223372036854775807 := by omega
  have b6 : 2 * i + 1 + 1 = 2 * (i + 1) := by omega
  have j2 : ∀ y : Bool, (y = true ↔ x = true) → groatref03_Get.j2 (k + 1) (sb b) (sz : Int) (sb o) ((2 * i + 1 : Nat) : Int) y = if x = true then some (sb [], 4, 0) else if 9 < c.toNat % 16 then some (sb [], 3, (i : Int)) else groatref03_Get.l0 k (sb b) (sz : Int) (sb (o ++ [u8 (48 + c.toNat % 16)])) ((2 * (i + 1) : Nat) : Int) := by
    intro y hy
    rw [groatref03_Get.j2]
    by_cases h0 : x = true
    · rw [if_pos (hy.2 h0), if_pos h0]; rfl
    · rw [if_neg (fun h => h0 (hy.1 h)), if_neg h0, t1, wrap64_nat b3, if_pos b1, if_pos (by rw [size_sb]; exact b2), if_pos t2, bt_drop hm, g2]
      by_cases h : 9 < c.toNat % 16
      · rw [if_pos (by omega), if_pos h]; rfl
      · rw [if_neg (by omega), if_neg h, g4]
        simp only [Option.bind_some]
        rw [strOne, size_sb, size_sb, if_pos (show o.length + [_].length ≤ 9223372036854775807 from b5), sb_append, wrap64_succ b4, b6]
  rw [groatref03_Get.l0, wrap64_id c1 c2, if_pos c3]
  by_cases h1 : i = 0
  · subst h1
    rw [if_pos (by omega), toList_sb]
    by_cases h2 : o = []
    · rw [if_pos h2, if_pos (by rw [size_sb]; exact b2), show (0 : Int) = ((0 : Nat) : Int) from rfl, bt_sb]
      obtain ⟨q1, -, -, -⟩ := rg256 ⟨(b[0]?.getD 0).toNat, u8_lt _⟩
      simp only at q1
      rw [q1]
      refine j2 _ ?_
      rw [hx]
      simp [h2]; omega
    · rw [if_neg h2]
      refine j2 _ ?_
      rw [hx]
      simp [h2]
  · rw [if_neg (by omega)]
    refine j2 _ ?_
    rw [hx]
    simp [h1]
theorem ref03_Get_l (b : List UInt8) (hb : b.length ≤ 140737488351232) (sz : Nat) (odd : Bool) (hs : sz ≤ b.length) (hsz : sz ≤ 1000) : ∀ (m o : List UInt8) (k i : Nat), (b.take sz).drop i = m → i + m.length = sz → o.length = 2 * i → (i ≠ 0 ∨ odd = false) → 4 * m.length + 1 < k →
    groatref03_Get.l0 k (sb b) (sz : Int) (sb (if odd = true then o.drop 1 else o)) ((2 * i : Nat) : Int) = some (sb (bcdFrom odd i o m).1, (bcdFrom odd i o m).2.1, (bcdFrom odd i o m).2.2)
  | [], o, k, i, hm, hi, ho, h0, hk => by
    obtain ⟨k, rfl⟩ : ∃ m, k = m + 1 := ⟨k - 1, by omega⟩
    have hi' : i = sz := by simpa using hi
    have c1 : -9223372036854775808 ≤ 2 * (sz : Int) := by omega
    have c2 : 2 * (sz : Int) ≤ 9223372036854775807 := by omega
    have c3 : ¬ (((2 * i : Nat) : Int) < 2 * (sz : Int)) := by omega
    rw [groatref03_Get.l0, wrap64_id c1 c2, if_neg c3, bcdFrom]
  | c :: m, o, k, i, hm, hi, ho, h0, hk => by
    rw [List.length_cons] at hi hk
    obtain ⟨k, rfl⟩ : ∃ m, k = m + 4 := ⟨k - 4, by omega⟩
    obtain ⟨hlt, hc, hm1⟩ := drop_cons hm
    have hmb : b.drop i = c :: b.drop (i + 1) := by
      have hlt2 : i < b.length := by rw [List.length_take] at hlt; omega
      rw [List.drop_eq_getElem_cons hlt2]
      rw [List.getElem_take] at hc; rw [hc]
    have hol : (if odd = true then o.drop 1 else o).length ≤ 2 * i := by
      split
      · rw [List.length_drop]; omega
      · omega
    have hol2 : ((if odd = true then o.drop 1 else o) ++ [u8 (48 + c.toNat / 16)]).length ≤ 2000 := by rw [List.length_append, List.length_singleton]; omega
    have isz : i < sz := by omega
    have hi2 : i + 1 + m.length = sz := by omega
    rw [ref03_hi b hb sz c _ _ (by omega) i (k + 2) hmb isz hsz, bcdFrom]
    have n1 : ¬ (i = 0 ∧ odd = true ∧ c.toNat / 16 ≠ 0) := by
      rintro ⟨e1, e2, -⟩
      rcases h0 with h0 | h0
      · exact h0 e1
      · rw [h0] at e2; cases e2
    rw [if_neg n1]
    by_cases h1 : 9 < c.toNat / 16
    · rw [if_pos h1, if_pos (.inl h1)]
    · rw [if_neg h1, ref03_lo b hb sz c _ _ hol2 i k hmb isz hsz false (by simp)]
      rw [if_neg (by decide)]
      by_cases h2 : 9 < c.toNat % 16
      · rw [if_pos h2, if_pos (.inr h2)]
      · rw [if_neg h2, if_neg (show ¬ (9 < c.toNat / 16 ∨ 9 < c.toNat % 16) by omega)]
        have e : ((if odd = true then o.drop 1 else o) ++ [u8 (48 + c.toNat / 16)]) ++ [u8 (48 + c.toNat % 16)] = if odd = true then (o ++ [u8 (48 + c.toNat / 16), u8 (48 + c.toNat % 16)]).drop 1 else o ++ [u8 (48 + c.toNat / 16), u8 (48 + c.toNat % 16)] := by
          cases odd with
          | false => simp
          | true =>
            have hi0 : i ≠ 0 := by rcases h0 with h | h; exact h; cases h
            simp only [if_true]
            cases o with
            | nil => simp at ho; omega
            | cons x o => simp
        rw [e]
        exact ref03_Get_l b hb sz odd hs hsz m _ k (i + 1) hm1 hi2 (by rw [List.length_append]; simp; omega) (.inl (by omega)) (by omega)
theorem ref03_Get (b : List UInt8) (hb : b.length ≤ 140737488351232) (n : Int) (hn : n ≤ 9223372036854775807) (k : Nat) (hk : 2100 < k) : groatref03_Get.f k (sb b) n = some (sb (bcdGet b n).1, (bcdGet b n).2.1, (bcdGet b n).2.2) := by
  obtain ⟨k, rfl⟩ : ∃ m, k = m + 3 := ⟨k - 3, by omega⟩
  unfold groatref03_Get.f bcdGet
  by_cases h1 : n < 0
  · rw [if_pos h1, if_pos (.inl h1)]; simp [groatref03_Get.j0, empty_sb]
  · rw [if_neg h1]
    by_cases h2 : 999 < n
    · rw [if_pos (.inr h2), decide_eq_true (show n > 999 from h2)]; simp [groatref03_Get.j0, empty_sb]
    · obtain ⟨v, rfl⟩ := Int.eq_ofNat_of_zero_le (show 0 ≤ n by omega)
      have b2 : v < 9223372036854775807 := by omega
      have t1 : Int.tdiv ((v + 1 : Nat) : Int) 2 = (((v + 1) / 2 : Nat) : Int) := tdiv_nat (v + 1) 2
      have b3 : (v + 1) / 2 ≤ 9223372036854775807 := by omega
      have b4 : -9223372036854775808 ≤ 2 * (((v + 1) / 2 : Nat) : Int) := by omega
      have b5 : 2 * (((v + 1) / 2 : Nat) : Int) ≤ 9223372036854775807 := by omega
      have b6 : 2 * (((v + 1) / 2 : Nat) : Int) - (v : Int) = ((v % 2 : Nat) : Int) := by omega
      have b7 : v % 2 ≤ 9223372036854775807 := by omega
      have b8 : (v + 1) / 2 ≤ 1000 := by omega
      rw [if_neg (by omega), decide_eq_false (show ¬ ((v : Int) > 999) from h2), Int.toNat_natCast]
      rw [groatref03_Get.j0, if_neg (by decide), wrap64_succ b2, t1, wrap64_nat b3, size_sb]
      by_cases h3 : b.length < (v + 1) / 2
      · rw [if_pos (by omega), if_pos h3]; rfl
      · rw [if_neg (by omega), if_neg h3, wrap64_id b4 b5, b6, wrap64_nat b7]
        have hlen : (b.take ((v + 1) / 2)).length = (v + 1) / 2 := by rw [List.length_take]; omega
        by_cases ho : v % 2 = 1
        · have hd : decide (v % 2 = 1) = true := decide_eq_true ho
          rw [hd, ho]
          cases hb0 : b.take ((v + 1) / 2) with
          | nil => rw [hb0] at hlen; simp at hlen; omega
          | cons c m =>
            rw [hb0, List.length_cons] at hlen
            have hmb : b.drop 0 = c :: b.drop 1 := by
              have hlt2 : 0 < b.length := by omega
              have : b[0] = c := by
                have e := congrArg (fun l => l[0]?) hb0
                simp only [List.getElem?_take, List.getElem?_cons_zero] at e
                rw [if_pos (by omega), List.getElem?_eq_getElem hlt2] at e
                exact Option.some.inj e
              rw [List.drop_eq_getElem_cons hlt2, this]
            have hb1 : (b[0]?.getD 0) = c := by
              have := congrArg (fun l => l[0]?.getD 0) hmb
              simpa using this
            have hx : decide (c.toNat / 16 ≠ 0) = true ↔ (0 = 0 ∧ ([] : List UInt8) = [] ∧ (b[0]?.getD 0).toNat / 16 ≠ 0) := by rw [hb1]; simp
            have := ref03_lo b hb ((v + 1) / 2) c _ [] (by simp) 0 k hmb (by omega) b8 _ hx
            refine this.trans ?_
            by_cases g1 : c.toNat / 16 ≠ 0
            · have e1 : bcdFrom true 0 [] (c :: m) = ([], 4, 0) := by rw [bcdFrom]; exact if_pos ⟨rfl, rfl, g1⟩
              rw [if_pos (decide_eq_true g1), e1]
            · have g1' : ¬ (0 = 0 ∧ true = true ∧ c.toNat / 16 ≠ 0) := fun h => g1 h.2.2
              have g0 : ¬ decide (c.toNat / 16 ≠ 0) = true := fun h => g1 (of_decide_eq_true h)
              rw [if_neg g0]
              by_cases g2 : 9 < c.toNat % 16
              · have e1 : bcdFrom true 0 [] (c :: m) = ([], 3, 0) := by rw [bcdFrom, if_neg g1']; exact if_pos (.inr g2)
                rw [if_pos g2, e1]; rfl
              · have g3 : ¬ (9 < c.toNat / 16 ∨ 9 < c.toNat % 16) := by omega
                have e1 : bcdFrom true 0 [] (c :: m) = bcdFrom true 1 [u8 (48 + c.toNat / 16), u8 (48 + c.toNat % 16)] m := by rw [bcdFrom, if_neg g1', if_neg g3]; rfl
                rw [if_neg g2, e1]
                have hm1 : (b.take ((v + 1) / 2)).drop 1 = m := by rw [hb0]; rfl
                exact ref03_Get_l b hb ((v + 1) / 2) true (by omega) b8 m [u8 (48 + c.toNat / 16), u8 (48 + c.toNat % 16)] k 1 hm1 (by omega) rfl (.inl (by decide)) (by omega)
        · have hd : decide (v % 2 = 1) = false := decide_eq_false ho
          rw [hd, show v % 2 = 0 by omega]
          have := ref03_Get_l b hb ((v + 1) / 2) false (by omega) b8 (b.take ((v + 1) / 2)) [] (k + 2) 0 rfl (by rw [hlen]; omega) rfl (.inr rfl) (by rw [hlen]; omega)
          exact this
end Go.Proofs.Ytfaeodcapagjbaa.Sp
