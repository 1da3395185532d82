/- What the program's functions on packed digits answer. -/
import Derived.Test.YtfaeodcapagjbaaBcdS
import Derived.Test.YtfaeodcapagjbaaPx5
import Derived.Test.YtfaeodcapagjbaaPx6
namespace Go.Proofs.Ytfaeodcapagjbaa.Sp
open Go.RowKit Go.Proofs.YtfaeodcapagjbaaW.PrintWords Go.Proofs.YtfaeodcapagjbaaW.PrintLast Go.Proofs.YtfaeodcapagjbaaW.PrintMore Go.Proofs.Ytfaeodcapagjbaa.P
set_option linter.unusedVariables false
set_option linter.unusedSimpArgs false
theorem or100 : ∀ a b : Fin 10, Go.bits .or .u8 ((((((48 + a.val : Nat) : Int) - 48) % 256) * 16) % 256) ((((48 + b.val : Nat) : Int) - 48) % 256) = ((16 * a.val + b.val : Nat) : Int) := by decide +kernel
theorem or_dig {a b : UInt8} (ha : dig a = true) (hb : dig b = true) : Go.bits .or .u8 (((((a.toNat : Int) - 48) % 256) * 16) % 256) (((b.toNat : Int) - 48) % 256) = ((16 * (a.toNat - 48) + (b.toNat - 48) : Nat) : Int) := by
  have ha := (dig_iff a).1 ha
  have hb := (dig_iff b).1 hb
  have := or100 ⟨a.toNat - 48, by omega⟩ ⟨b.toNat - 48, by omega⟩
  simp only at this
  rwa [show 48 + (a.toNat - 48) = a.toNat by omega, show 48 + (b.toNat - 48) = b.toNat by omega] at this
theorem bcd_Put_l (l : List UInt8) (hl : l.length ≤ 2000) (hd : l.all dig = true) : ∀ (m o : List UInt8) (k i : Nat), l.drop i = m → i + m.length = l.length → m.length % 2 = 0 → o.length ≤ i → m.length < k →
    bcd_Put.l0 k (sb l) (ints o) (i : Int) = some (sb (o ++ pack m), true)
  | [], o, k, i, hm, hi, h2, ho, hk => by
    obtain ⟨k, rfl⟩ : ∃ m, k = m + 1 := ⟨k - 1, by omega⟩
    have hi' : i = l.length := by simpa using hi
    simp only [bcd_Put.l0]
    rw [if_neg (by rw [size_sb]; omega), str_ints]; simp [pack]
  | [a], o, k, i, hm, hi, h2, ho, hk => by simp at h2
  | a :: b :: m, o, k, i, hm, hi, h2, ho, hk => by
    obtain ⟨k, rfl⟩ : ∃ m, k = m + 1 := ⟨k - 1, by omega⟩
    obtain ⟨hlt, ha, hm1⟩ := drop_cons hm
    obtain ⟨hlt1, hb, hm2⟩ := drop_cons hm1
    have da : dig a = true := by rw [← ha]; exact List.all_eq_true.1 hd _ (List.getElem_mem hlt)
    have db : dig b = true := by rw [← hb]; exact List.all_eq_true.1 hd _ (List.getElem_mem hlt1)
    have hl3 : m.length + 2 = (a :: b :: m).length := rfl
    have b0 : (i : Int) < (l.length : Int) := by omega
    have b1 : 0 ≤ (i : Int) := by omega
    have b2 : i < 9223372036854775807 := by omega
    have b3 : ((i + 1 : Nat) : Int) < (l.length : Int) := by omega
    have b4 : 0 ≤ ((i + 1 : Nat) : Int) := by omega
    have b6 : o.length < 140737488355328 := by omega
    have b7 : -9223372036854775808 ≤ (i : Int) + 2 := by omega
    have b8 : (i : Int) + 2 ≤ 9223372036854775807 := by omega
    have hm4 : m.length % 2 = 0 := by omega
    have hi2 : i + 2 + m.length = l.length := by omega
    have ho2 : o.length + 1 ≤ i + 2 := by omega
    have hk2 : m.length < k := by omega
    have hv := (two_dig da db).1
    simp only [bcd_Put.l0]
    rw [if_pos (by rw [size_sb]; exact b0), if_pos b1, wrap64_succ b2, if_pos b4, if_pos (by rw [size_sb]; exact b3), ints_length, if_pos b6, bt_drop hm, bt_drop hm1, or_dig da db, ints_snoc o _ hv, wrap64_id b7 b8]
    have := bcd_Put_l l hl hd m (o ++ [u8 (16 * (a.toNat - 48) + (b.toNat - 48))]) k (i + 2) hm2 hi2 hm4 (by rw [List.length_append]; exact ho2) hk2
    rw [show (i : Int) + 2 = ((i + 2 : Nat) : Int) from rfl, this, pack]
    simp
theorem bcd_Put_j1 (l : List UInt8) (hl : l.length ≤ 2000) (hd : l.all dig = true) (h2 : l.length % 2 = 0) (k : Nat) (hk : l.length + 1 < k) : bcd_Put.j1 k (sb l) = some (sb (pack l), true) := by
  obtain ⟨k, rfl⟩ : ∃ m, k = m + 1 := ⟨k - 1, by omega⟩
  have b0 : -9223372036854775808 ≤ ((l.length : Nat) : Int) / 2 := by omega
  have b1 : ((l.length : Nat) : Int) / 2 ≤ 9223372036854775807 := by omega
  have b2 : 0 ≤ ((l.length : Nat) : Int) / 2 := by omega
  have b3 : (((l.length : Nat) : Int) / 2).toNat ≤ 281474976710656 := by omega
  simp only [bcd_Put.j1]
  rw [size_sb, wrap64_id b0 b1, if_pos b2, if_pos b3]
  exact bcd_Put_l l hl hd l [] k 0 rfl (by simp) h2 (Nat.le_refl _) (by omega)
theorem bcd_Put (l : List UInt8) (hl : l.length ≤ 140737488351232) (k : Nat) (hk : 1004 < k) : bcd_Put.f k (sb l) = some (sb (bcdPut l).1, (bcdPut l).2) := by
  obtain ⟨k, rfl⟩ : ∃ m, k = m + 1 := ⟨k - 1, by omega⟩
  unfold bcd_Put.f bcdPut
  by_cases h1 : 999 < l.length
  · rw [if_pos (by rw [size_sb]; omega), if_pos (.inl h1)]; simp [bcd_Put.j0, empty_sb]
  · rw [if_neg (by rw [size_sb]; omega)]
    unfold digits_All.f allDig
    rw [bl_sb, Option.bind_some]
    cases hd : l.all dig with
    | false => rw [if_pos (.inr rfl)]; simp [bcd_Put.j0, empty_sb]
    | true =>
      rw [if_neg (by simp; omega)]
      simp only [bcd_Put.j0, Bool.not_true, Bool.false_eq_true, if_false]
      by_cases h2 : l.length % 2 = 0
      · have e : even0 l = l := if_pos h2
        rw [if_pos (by rw [size_sb]; omega), e]
        exact bcd_Put_j1 l (by omega) hd h2 k (by omega)
      · have e : even0 l = u8 48 :: l := if_neg h2
        rw [if_neg (by rw [size_sb]; omega), if_pos (by rw [size_sb]; omega), e]
        exact bcd_Put_j1 (u8 48 :: l) (by simp; omega) (by rw [List.all_cons, hd]; decide) (by rw [List.length_cons]; omega) k (by rw [List.length_cons]; omega)
theorem bcd_Size (n : Nat) (hn : n ≤ 1000000) : bcd_Size.f (n : Int) = some (((n + 1) / 2 : Nat) : Int) := by
  unfold bcd_Size.f
  by_cases h : n < 1
  · rw [if_pos (by omega)]
    have : n = 0 := by omega
    subst this; rfl
  · have b1 : n / 2 ≤ 9223372036854775807 := by omega
    have b2 : -9223372036854775808 ≤ ((n / 2 : Nat) : Int) + ((n % 2 : Nat) : Int) := by omega
    have b3 : ((n / 2 : Nat) : Int) + ((n % 2 : Nat) : Int) ≤ 9223372036854775807 := by omega
    have b4 : ((n / 2 : Nat) : Int) + ((n % 2 : Nat) : Int) = (((n + 1) / 2 : Nat) : Int) := by omega
    have t1 : Int.tdiv (n : Int) 2 = ((n / 2 : Nat) : Int) := tdiv_nat n 2
    have t2 : Int.tmod (n : Int) 2 = ((n % 2 : Nat) : Int) := tmod_nat n 2
    rw [if_neg (by omega), t1, t2, wrap64_nat b1, wrap64_id b2 b3, b4]
theorem get256 : ∀ n : Fin 256, ((n.val : Nat) : Int) / 16 = ((n.val / 16 : Nat) : Int) ∧ Go.bits .and .u8 ((n.val : Nat) : Int) 15 = ((n.val % 16 : Nat) : Int) ∧ (48 + ((n.val / 16 : Nat) : Int)) % 256 = ((48 + n.val / 16 : Nat) : Int) ∧ (48 + ((n.val % 16 : Nat) : Int)) % 256 = ((48 + n.val % 16 : Nat) : Int) := by decide +kernel
theorem bcd_Get_j2 (b : List UInt8) (n sz : Nat) (c : UInt8) (o : List UInt8) (ho : o.length ≤ 2000) (i : Nat) (hi : i ≤ 1000) (x : Bool) (k : Nat) :
    bcd_Get.j2 (k + 1) (sb b) (n : Int) (ints o) (i : Int) ((c.toNat / 16 : Nat) : Int) ((c.toNat % 16 : Nat) : Int) (sz : Int) (i : Int) x =
      if x = true then some (sb [], 4, 0) else if 9 < c.toNat / 16 ∨ 9 < c.toNat % 16 then some (sb [], 3, (i : Int)) else bcd_Get.l0 k (sb b) (n : Int) (ints (o ++ [u8 (48 + c.toNat / 16), u8 (48 + c.toNat % 16)])) (sz : Int) ((i + 1 : Nat) : Int) := by
  have hc := u8_lt c
  obtain ⟨-, -, g3, g4⟩ := get256 ⟨c.toNat, hc⟩
  simp only at g3 g4
  have b2 : i < 9223372036854775807 := by omega
  have b6 : o.length + 2 < 140737488355328 := by omega
  have b7 : 48 + c.toNat / 16 < 256 := by omega
  have b8 : 48 + c.toNat % 16 < 256 := by omega
  simp only [bcd_Get.j2]
  by_cases hx : x = true
  · rw [if_pos hx, if_pos hx]; rfl
  · rw [if_neg hx, if_neg hx]
    by_cases h1 : 9 < c.toNat / 16
    · rw [if_pos (by omega), if_pos (.inl h1)]; rfl
    · rw [if_neg (by omega)]
      by_cases h2 : 9 < c.toNat % 16
      · rw [if_pos (by omega), if_pos (.inr h2)]; rfl
      · rw [if_neg (by omega), if_neg (by omega), g3, g4]
        simp only [Option.bind_some, List.length_cons, List.length_nil, ints_length]
        rw [if_pos b6, ints_two o _ _ b7 b8, wrap64_succ b2]
theorem bcd_Get_l (b : List UInt8) (n : Nat) (hn : n ≤ 999) (hb : (n + 1) / 2 ≤ b.length) : ∀ (m o : List UInt8) (k i : Nat), (b.take ((n + 1) / 2)).drop i = m → i + m.length = (n + 1) / 2 → o.length = 2 * i → 2 * m.length + 1 < k →
    bcd_Get.l0 k (sb b) (n : Int) (ints o) (((n + 1) / 2 : Nat) : Int) (i : Int) = some (sb (bcdFrom (decide (n % 2 = 1)) i o m).1, (bcdFrom (decide (n % 2 = 1)) i o m).2.1, (bcdFrom (decide (n % 2 = 1)) i o m).2.2)
  | [], o, k, i, hm, hi, ho, hk => by
    obtain ⟨k, rfl⟩ : ∃ m, k = m + 1 := ⟨k - 1, by omega⟩
    have hi' : i = (n + 1) / 2 := by simpa using hi
    have b3 : ¬ ((i : Int) < (((n + 1) / 2 : Nat) : Int)) := by omega
    have b4 : 0 ≤ ((n % 2 : Nat) : Int) := by omega
    have b5 : ((n % 2 : Nat) : Int) ≤ (o.length : Int) := by omega
    have t2 : Int.tmod (n : Int) 2 = ((n % 2 : Nat) : Int) := tmod_nat n 2
    simp only [bcd_Get.l0]
    rw [if_neg b3, t2, if_pos b4, ints_length, if_pos b5, Int.toNat_natCast, ints_drop, str_ints, bcdFrom]
    by_cases h : n % 2 = 1
    · rw [h]; rfl
    · rw [show n % 2 = 0 by omega]; rfl
  | c :: m, o, k, i, hm, hi, ho, hk => by
    obtain ⟨k, rfl⟩ : ∃ m, k = m + 2 := ⟨k - 2, by rw [List.length_cons] at hk; omega⟩
    rw [List.length_cons] at hi hk
    obtain ⟨hlt, hc, hm1⟩ := drop_cons hm
    have hmb : b.drop i = c :: b.drop (i + 1) := by
      have hlt2 : i < b.length := by rw [List.length_take] at hlt; omega
      rw [List.drop_eq_getElem_cons hlt2]
      rw [List.getElem_take] at hc; rw [hc]
    have hlb := len_drop hmb
    have b0 : (i : Int) < (((n + 1) / 2 : Nat) : Int) := by omega
    have b1 : 0 ≤ (i : Int) := by omega
    have b3 : (i : Int) < (b.length : Int) := by omega
    have b4 : o.length ≤ 2000 := by omega
    have b5 : i ≤ 1000 := by omega
    have hi2 : i + 1 + m.length = (n + 1) / 2 := by omega
    have ho2 : o.length + 2 = 2 * (i + 1) := by omega
    have hk2 : 2 * m.length + 1 < k := by omega
    obtain ⟨g1, g2, -, -⟩ := get256 ⟨c.toNat, u8_lt c⟩
    simp only at g1 g2
    have t2 : Int.tmod (n : Int) 2 = ((n % 2 : Nat) : Int) := tmod_nat n 2
    have rest : ∀ x : Bool, (x = true ↔ (i = 0 ∧ decide (n % 2 = 1) = true ∧ c.toNat / 16 ≠ 0)) →
        bcd_Get.j2 (k + 1) (sb b) (n : Int) (ints o) (i : Int) ((c.toNat / 16 : Nat) : Int) ((c.toNat % 16 : Nat) : Int) (((n + 1) / 2 : Nat) : Int) (i : Int) x = some (sb (bcdFrom (decide (n % 2 = 1)) i o (c :: m)).1, (bcdFrom (decide (n % 2 = 1)) i o (c :: m)).2.1, (bcdFrom (decide (n % 2 = 1)) i o (c :: m)).2.2) := by
      intro x hx
      rw [bcd_Get_j2 b n _ c o b4 i b5 x k, bcdFrom]
      by_cases h1 : x = true
      · rw [if_pos h1, if_pos (hx.1 h1)]
      · rw [if_neg h1, if_neg (fun h => h1 (hx.2 h))]
        by_cases h2 : 9 < c.toNat / 16 ∨ 9 < c.toNat % 16
        · rw [if_pos h2, if_pos h2]
        · rw [if_neg h2, if_neg h2]
          exact bcd_Get_l b n hn hb m _ k (i + 1) hm1 hi2 (by rw [List.length_append]; exact ho2) hk2
    show bcd_Get.l0 (k + 1 + 1) _ _ _ _ _ = _
    rw [bcd_Get.l0, if_pos b0, if_pos b1, if_pos (by rw [size_sb]; exact b3), bt_drop hmb, g1, g2, t2]
    by_cases h1 : i = 0
    · rw [if_pos (by omega)]
      by_cases h2 : n % 2 = 1
      · rw [if_neg (by omega)]
        refine rest _ ?_
        simp [h1, h2]; omega
      · rw [if_pos (by omega)]
        refine rest _ ?_
        simp [h2]
    · rw [if_neg (by omega)]
      refine rest _ ?_
      simp [h1]
theorem bcd_Get (b : List UInt8) (n : Int) (hn : n ≤ 9223372036854775807) (k : Nat) (hk : 1100 < k) : bcd_Get.f k (sb b) n = some (sb (bcdGet b n).1, (bcdGet b n).2.1, (bcdGet b n).2.2) := by
  obtain ⟨k, rfl⟩ : ∃ m, k = m + 1 := ⟨k - 1, by omega⟩
  unfold bcd_Get.f bcdGet
  by_cases h1 : n < 0
  · rw [if_pos h1, if_pos (.inl h1)]; simp [bcd_Get.j0, empty_sb]
  · rw [if_neg h1]
    by_cases h2 : 999 < n
    · rw [if_pos (.inr h2), decide_eq_true (show n > 999 from h2)]; simp [bcd_Get.j0, empty_sb]
    · obtain ⟨v, rfl⟩ := Int.eq_ofNat_of_zero_le (show 0 ≤ n by omega)
      have b1 : 0 ≤ ((v + 1 : Nat) : Int) := by omega
      have b2 : v < 9223372036854775807 := by omega
      have b3 : (((v + 1 : Nat) : Int)).toNat ≤ 281474976710656 := by omega
      have b4 : 2 * ((b.take ((v + 1) / 2)).length) + 1 < k := by rw [List.length_take]; omega
      rw [if_neg (by omega), decide_eq_false (show ¬ ((v : Int) > 999) from h2), Int.toNat_natCast]
      simp only [bcd_Get.j0, Bool.false_eq_true, if_false]
      rw [bcd_Size v (by omega), Option.bind_some, size_sb]
      by_cases h3 : b.length < (v + 1) / 2
      · rw [if_pos (by omega), if_pos h3]; rfl
      · rw [if_neg (by omega), if_neg h3, wrap64_succ b2, if_pos b1, if_pos b3]
        exact bcd_Get_l b v (by omega) (by omega) _ [] k 0 rfl (by rw [List.length_take]; omega) rfl b4
end Go.Proofs.Ytfaeodcapagjbaa.Sp
