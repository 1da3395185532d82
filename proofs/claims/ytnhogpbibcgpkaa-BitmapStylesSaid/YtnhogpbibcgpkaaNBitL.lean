/- Bit maps: what was put comes back, in plain words. -/
import Derived.Test.YtnhogpbibcgpkaaNBit
namespace Go.Proofs.Ytnhogpbibcgpkaa.Sp
open Go Go.RowKit
set_option linter.unusedVariables false
set_option linter.unusedSimpArgs false
def enc8 (s : Int) (t : List UInt8) : List UInt8 := if s = 1 then hexPut t else t
theorem enc8_append (s : Int) (t u : List UInt8) : enc8 s (t ++ u) = enc8 s t ++ enc8 s u := by
  unfold enc8; split
  · exact hexPut_append t u
  · rfl
theorem enc8_length (s : Int) (t : List UInt8) : (enc8 s t).length = (if s = 1 then 2 else 1) * t.length := by
  unfold enc8; split
  · exact hexPut_length t
  · omega
theorem bitTake_put (s : Int) (p t q : List UInt8) (ht : t.length = 8) : bitTake s (p ++ (enc8 s t ++ q)) p.length = (t, p.length + (enc8 s t).length, 0) := by
  have hlen := enc8_length s t
  unfold bitTake
  rw [List.drop_left, List.length_append, List.length_append]
  by_cases h : s = 1
  · rw [if_pos h] at hlen
    have hw : (enc8 s t).length = 16 := by omega
    rw [if_pos h, if_neg (by omega), ← hw, List.take_left]
    have : enc8 s t = hexPut t := by unfold enc8; rw [if_pos h]
    rw [this, hexGet_put, if_pos rfl]
  · rw [if_neg h] at hlen
    have hw : (enc8 s t).length = 8 := by omega
    rw [if_neg h, if_neg (by omega), ← hw, List.take_left]
    have : enc8 s t = t := by unfold enc8; rw [if_neg h]
    rw [this]
theorem bitTake_ok {s : Int} {l : List UInt8} {i : Nat} (hi : i ≤ l.length) (h : (bitTake s l i).2.2 = 0) : (bitTake s l i).2.1 ≤ l.length ∧ (l.drop i).take ((bitTake s l i).2.1 - i) = enc8 s (bitTake s l i).1 ∧ i ≤ (bitTake s l i).2.1 := by
  unfold bitTake at h ⊢
  by_cases h1 : s = 1
  · simp only [if_pos h1] at h ⊢
    by_cases h2 : l.length < i + 16
    · rw [if_pos h2] at h; cases h
    · rw [if_neg h2] at h ⊢
      by_cases h3 : (hexGet ((l.drop i).take 16)).2.2 = true
      · rw [if_pos h3] at h ⊢
        refine ⟨by dsimp only; omega, ?_, by dsimp only; omega⟩
        dsimp only
        rw [show i + 16 - i = 16 by omega]
        unfold enc8
        rw [if_pos h1]
        exact (hexGet_length h3 rfl).symm
      · rw [if_neg h3] at h; cases h
  · simp only [if_neg h1] at h ⊢
    by_cases h2 : l.length < i + 8
    · rw [if_pos h2] at h; cases h
    · rw [if_neg h2] at h ⊢
      refine ⟨by dsimp only; omega, ?_, by dsimp only; omega⟩
      dsimp only
      rw [show i + 8 - i = 8 by omega]
      unfold enc8
      rw [if_neg h1]
theorem bitPut_ok {s : Int} {h l : Nat} (hk : s = 1 ∨ s = 2) (hh : h < 9223372036854775808) : bitPut s h l = (enc8 s (bitRaw h l), 0) := by
  unfold bitPut
  rw [if_neg (show ¬ (¬ (s = 1 ∨ s = 2) ∨ 9223372036854775808 ≤ h) from fun e => e.elim (fun e => e hk) (by omega))]
  rfl
theorem bitPut_err {s : Int} {h l : Nat} : (bitPut s h l).2 = 0 ↔ (s = 1 ∨ s = 2) ∧ h < 9223372036854775808 := by
  constructor
  · intro e
    unfold bitPut at e
    split at e
    · cases e
    · rename_i hc
      simp only [not_or, Classical.not_not] at hc
      exact ⟨by omega, by omega⟩
  · rintro ⟨h1, h2⟩; rw [bitPut_ok h1 h2]
theorem bitPut_err1 {s : Int} {h l : Nat} (e : ¬ (bitPut s h l).2 = 0) : bitPut s h l = ([], 1) := by
  unfold bitPut at e ⊢
  split
  · rfl
  · rename_i hc; rw [if_neg hc] at e; exact absurd rfl e
theorem bitGet_put {s : Int} {h l : Nat} (hk : s = 1 ∨ s = 2) (hh : h < 9223372036854775808) (hl : l < 18446744073709551616) (p q : List UInt8) :
    bitGet s (p ++ (enc8 s (bitRaw h l) ++ q)) (p.length : Int) = ((h, l), p.length + (enc8 s (bitRaw h l)).length, 0) := by
  unfold bitGet
  rw [if_neg (show ¬ (¬ (s = 1 ∨ s = 2) ∨ (p.length : Int) < 0 ∨ _) from fun e => e.elim (fun e => e hk) (fun e => e.elim (by omega) (by rw [List.length_append]; omega))), Int.toNat_natCast]
  unfold bitRaw
  by_cases h0 : l = 0
  · rw [if_pos h0, bitTake_put s p (be8 h) q rfl]
    simp only [ne_eq, not_true_eq_false, if_false]
    rw [nat8_be8 (by omega), if_pos hh, h0]
  · rw [if_neg h0, enc8_append, List.append_assoc, bitTake_put s p (be8 (9223372036854775808 + h)) _ rfl]
    simp only [ne_eq, not_true_eq_false, if_false]
    rw [nat8_be8 (by omega), if_neg (by omega)]
    have := bitTake_put s (p ++ enc8 s (be8 (9223372036854775808 + h))) (be8 l) q rfl
    rw [List.append_assoc, List.length_append] at this
    rw [this]
    simp only [ne_eq, not_true_eq_false, if_false]
    rw [nat8_be8 hl, if_neg h0, show (9223372036854775808 + h) % 9223372036854775808 = h by omega, List.length_append, Nat.add_assoc]
theorem bitGet_err {s : Int} {l : List UInt8} {a : Int} (h : ¬ (bitGet s l a).2.2 = 0) : (bitGet s l a).1 = (0, 0) ∧ (bitGet s l a).2.1 = 0 := by
  revert h
  unfold bitGet
  repeat' split
  all_goals intro h
  all_goals first | exact ⟨rfl, rfl⟩ | exact absurd rfl h
theorem bitGet_ok {s : Int} {l : List UInt8} {a : Int} (h : (bitGet s l a).2.2 = 0) : (s = 1 ∨ s = 2) ∧ 0 ≤ a ∧ a ≤ (l.length : Int) ∧ (bitGet s l a).1.1 < 9223372036854775808 ∧ (bitGet s l a).1.2 < 18446744073709551616 ∧ (bitGet s l a).2.1 ≤ l.length ∧ a.toNat ≤ (bitGet s l a).2.1 ∧
    (l.drop a.toNat).take ((bitGet s l a).2.1 - a.toNat) = enc8 s (bitRaw (bitGet s l a).1.1 (bitGet s l a).1.2) := by
  unfold bitGet at h ⊢
  by_cases c1 : ¬ (s = 1 ∨ s = 2) ∨ a < 0 ∨ (l.length : Int) < a
  · rw [if_pos c1] at h; cases h
  rw [if_neg c1] at h ⊢
  simp only [not_or, Classical.not_not] at c1
  have hi : a.toNat ≤ l.length := by omega
  refine ⟨by omega, by omega, by omega, ?_⟩
  by_cases c2 : (bitTake s l a.toNat).2.2 ≠ 0
  · rw [if_pos c2] at h; exact absurd h c2
  rw [if_neg c2] at h ⊢
  have c2 : (bitTake s l a.toNat).2.2 = 0 := Classical.not_not.1 c2
  obtain ⟨t1, t2, t3⟩ := bitTake_ok hi c2
  have e1 := bitTake_len s l a.toNat
  have b1 := be8_nat8 e1
  have l1 := nat8_lt e1
  generalize bitTake s l a.toNat = T at *
  by_cases c3 : nat8 T.1 < 9223372036854775808
  · rw [if_pos c3]
    refine ⟨c3, by show 0 < 18446744073709551616; decide, t1, t3, ?_⟩
    show _ = enc8 s (bitRaw (nat8 T.1) 0)
    unfold bitRaw
    rw [if_pos rfl, b1]; exact t2
  rw [if_neg c3] at h ⊢
  by_cases c4 : (bitTake s l T.2.1).2.2 ≠ 0
  · rw [if_pos c4] at h; exact absurd h c4
  rw [if_neg c4] at h ⊢
  have c4 : (bitTake s l T.2.1).2.2 = 0 := Classical.not_not.1 c4
  obtain ⟨u1, u2, u3⟩ := bitTake_ok t1 c4
  have e2 := bitTake_len s l T.2.1
  have b2 := be8_nat8 e2
  have l2 := nat8_lt e2
  generalize bitTake s l T.2.1 = U at *
  by_cases c5 : nat8 U.1 = 0
  · rw [if_pos c5] at h; cases h
  rw [if_neg c5] at h ⊢
  refine ⟨Nat.mod_lt _ (by decide), l2, u1, Nat.le_trans t3 u3, ?_⟩
  show _ = enc8 s (bitRaw (nat8 T.1 % 9223372036854775808) (nat8 U.1))
  unfold bitRaw
  rw [if_neg c5, enc8_append, b2, show 9223372036854775808 + nat8 T.1 % 9223372036854775808 = nat8 T.1 by omega, b1, ← t2, ← u2]
  dsimp only
  rw [show U.2.1 - a.toNat = (T.2.1 - a.toNat) + (U.2.1 - T.2.1) by omega, List.take_add, List.drop_drop, show a.toNat + (T.2.1 - a.toNat) = T.2.1 by omega]
end Go.Proofs.Ytnhogpbibcgpkaa.Sp
