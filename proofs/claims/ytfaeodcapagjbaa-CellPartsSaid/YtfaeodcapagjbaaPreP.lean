/- What the program's Put on lengths answers. -/
import Derived.Test.YtfaeodcapagjbaaPreS
import Derived.Test.YtfaeodcapagjbaaBcd
import Derived.Test.YtfaeodcapagjbaaPx1
import Derived.Test.YtfaeodcapagjbaaPx5
namespace Go.Proofs.Ytfaeodcapagjbaa.Sp
open Go.RowKit Go.Proofs.YtfaeodcapagjbaaW.PrintWords Go.Proofs.YtfaeodcapagjbaaW.PrintLast Go.Proofs.YtfaeodcapagjbaaW.PrintMore Go.Proofs.Ytfaeodcapagjbaa.P
set_option linter.unusedVariables false
set_option linter.unusedSimpArgs false
theorem digits_Put_l (w : Nat) (hw : w ≤ 18) : ∀ (j k n : Nat) (xs : List Int) (t : List UInt8), xs.length = w → j ≤ w → xs.drop j = ints t → j < k → n ≤ 9223372036854775807 →
    digits_Put.l0 k (n : Int) xs ((j : Int) - 1) = some (if n < 10 ^ j then (sb (digs j n ++ t), true) else (sb [], false))
  | 0, k, n, xs, t, hx, hj, hd, hk, hn => by
    obtain ⟨k, rfl⟩ : ∃ m, k = m + 1 := ⟨k - 1, by omega⟩
    have e : xs = ints t := by simpa using hd
    simp only [digits_Put.l0]
    rw [if_neg (by omega)]
    by_cases h : n = 0
    · subst h
      rw [if_neg (by omega), e, str_ints, if_pos (by decide)]; simp [digs]
    · rw [if_pos (by omega), if_neg (by rw [Nat.pow_zero]; omega)]; rfl
  | j + 1, k, n, xs, t, hx, hj, hd, hk, hn => by
    obtain ⟨k, rfl⟩ : ∃ m, k = m + 1 := ⟨k - 1, by omega⟩
    have b1 : n / 10 ≤ 9223372036854775807 := by omega
    have b3 : n % 10 < 10 := by omega
    have b4 : (j : Int) ≥ 0 := by omega
    have b5 : (j : Int) < (xs.length : Int) := by omega
    have b6 : -9223372036854775808 ≤ (j : Int) - 1 := by omega
    have b7 : (j : Int) - 1 ≤ 9223372036854775807 := by omega
    have b8 : 48 + n % 10 < 256 := by omega
    have hjl : j < xs.length := by omega
    have hk' : j < k := by omega
    have hp : n / 10 < 10 ^ j ↔ n < 10 ^ (j + 1) := by rw [Nat.pow_succ]; omega
    have e0 : Int.tmod (n : Int) 10 = ((n % 10 : Nat) : Int) := tmod_nat n 10
    have e1 : Int.tdiv (n : Int) 10 = ((n / 10 : Nat) : Int) := tdiv_nat n 10
    have e2 := wrap_dig (n % 10) b3
    have e3 : wrap64 (((n / 10 : Nat) : Int)) = ((n / 10 : Nat) : Int) := wrap64_nat b1
    have ej : ((j + 1 : Nat) : Int) - 1 = (j : Int) := by simp
    have hset : (xs.set j ((48 + n % 10 : Nat) : Int)).drop j = ints (u8 (48 + n % 10) :: t) := by
      rw [List.set_eq_take_append_cons_drop, if_pos hjl, List.drop_left' (by rw [List.length_take]; omega), hd, ints, ints, List.map_cons, u8_toNat _ b8]
    have ih := digits_Put_l w hw j k (n / 10) (xs.set j ((48 + n % 10 : Nat) : Int)) (u8 (48 + n % 10) :: t) (by rw [List.length_set]; exact hx) (by omega) hset hk' b1
    simp only [digits_Put.l0]
    rw [ej, if_pos b4, if_pos b4, if_pos b5, e0, e1, e2, e3, Int.toNat_natCast, wrap64_id b6 b7, ih]
    by_cases h : n < 10 ^ (j + 1)
    · rw [if_pos (hp.2 h), if_pos h, digs]; simp
    · rw [if_neg (fun h' => h (hp.1 h')), if_neg h]
theorem digits_Put (n w : Int) (hn : n ≤ 9223372036854775807) (k : Nat) (hk : 25 < k) : digits_Put.f k n w = some (putNum n w) := by
  obtain ⟨k, rfl⟩ : ∃ m, k = m + 1 := ⟨k - 1, by omega⟩
  unfold digits_Put.f putNum
  by_cases h1 : n < 0
  · rw [if_pos h1, if_pos (.inl h1)]; simp [digits_Put.j0, empty_sb]
  · rw [if_neg h1]
    by_cases h2 : w < 1
    · rw [if_pos h2, if_pos (.inr (.inl h2))]; simp [digits_Put.j0, empty_sb]
    · rw [if_neg h2]
      by_cases h3 : 18 < w
      · rw [if_pos (.inr (.inr (.inl h3))), decide_eq_true (show w > 18 from h3)]; simp [digits_Put.j0, empty_sb]
      · obtain ⟨m, rfl⟩ := Int.eq_ofNat_of_zero_le (show 0 ≤ n by omega)
        obtain ⟨v, rfl⟩ := Int.eq_ofNat_of_zero_le (show 0 ≤ w by omega)
        have b1 : 0 ≤ (v : Int) := by omega
        have b2 : v ≤ 281474976710656 := by omega
        have b3 : -9223372036854775808 ≤ (v : Int) - 1 := by omega
        have b4 : (v : Int) - 1 ≤ 9223372036854775807 := by omega
        have := digits_Put_l v (by omega) v k m (List.replicate v 0) [] (by simp) (Nat.le_refl _) (by simp [ints]) (by omega) (by omega)
        rw [decide_eq_false (show ¬ (v : Int) > 18 from h3)]
        simp only [digits_Put.j0, Bool.false_eq_true, if_false, Int.toNat_natCast]
        rw [if_pos b1, if_pos b2, wrap64_id b3 b4, this]
        by_cases h4 : m < 10 ^ v
        · rw [if_pos h4, if_neg (by rintro (h' | h' | h' | h'); omega; omega; omega; exact h' h4)]; simp
        · rw [if_neg h4, if_pos (.inr (.inr (.inr h4)))]
theorem prefix_width (f : Int) : prefix_width.f f = some (if f = 2 ∨ f = 3 then f else 0) := by
  unfold prefix_width.f
  by_cases h : f = 2
  · subst h; rfl
  · rw [if_neg h]
    by_cases h' : f = 3
    · subst h'; rfl
    · rw [if_neg h', if_neg (by omega)]
theorem prefix_known (s f : Int) : prefix_known.f s f = some (preOk s f) := by
  unfold prefix_known.f preOk
  rw [prefix_width]
  simp only [Option.bind_some]
  by_cases h : s = 1
  · rw [if_pos h]
    congr 1; rw [decide_eq_decide]; split <;> omega
  · rw [if_neg h]
    by_cases h' : s = 2
    · rw [if_pos h']
      congr 1; rw [decide_eq_decide]; split <;> omega
    · rw [if_neg h', decide_eq_false (by omega)]
theorem prefix_Put (s f n : Int) (hn : n ≤ 9223372036854775807) (k : Nat) (hk : 1010 < k) : prefix_Put.f k s f n = some (sb (prePut s f n).1, (prePut s f n).2) := by
  unfold prefix_Put.f prePut
  rw [prefix_known, Option.bind_some]
  by_cases h1 : preOk s f = true
  · obtain ⟨-, hf⟩ := preOk_iff h1
    rw [if_pos h1, if_pos h1, prefix_width, Option.bind_some, if_pos hf, digits_Put n f hn k (by omega), Option.bind_some]
    by_cases h2 : (putNum n f).2 = true
    · rw [if_pos h2, if_pos h2]
      by_cases h3 : s = 2
      · have hl : (bl (putNum n f).1).length ≤ 140737488351232 := by
          obtain ⟨w, rfl⟩ : ∃ w : Nat, f = (w : Int) := ⟨f.toNat, by omega⟩
          obtain ⟨-, -, -, hw, he⟩ := putNum_ok h2
          rw [he, bl_sb, digs_length]; omega
        have hb := bcd_Put (bl (putNum n f).1) hl k (by omega)
        rw [sb_bl] at hb
        rw [if_pos h3, if_pos h3, hb]; rfl
      · rw [if_neg h3, if_neg h3, sb_bl]
    · rw [if_neg h2, if_neg h2]; rfl
  · rw [if_neg h1, if_neg h1]; rfl
end Go.Proofs.Ytfaeodcapagjbaa.Sp
