/- What the reference's Put answers. -/
import Derived.Test.YtfaeodcapagjbaaBa2
import Derived.Test.YtfaeodcapagjbaaPx25
namespace Go.Proofs.Ytfaeodcapagjbaa.Sp
open Go.RowKit Go.Proofs.YtfaeodcapagjbaaW.PrintWords Go.Proofs.YtfaeodcapagjbaaW.PrintLast Go.Proofs.YtfaeodcapagjbaaW.PrintMore Go.Proofs.Ytfaeodcapagjbaa.P
set_option linter.unusedVariables false
set_option linter.unusedSimpArgs false
set_option maxHeartbeats 1000000 in
theorem ref01_Put_l (w : Nat) (hw : w ≤ 18) : ∀ (d k i n : Nat) (acc : List UInt8), i + d = w → d < k → acc.length = i → n ≤ 9223372036854775807 →
    groatref01_Put.l0 k (n : Int) (w : Int) (sb acc) (i : Int) = some (if n < 10 ^ d then (sb (digs d n ++ acc), true) else (sb [], false))
  | 0, k, i, n, acc, hi, hk, ha, hn => by
    obtain ⟨k, rfl⟩ : ∃ m, k = m + 1 := ⟨k - 1, by omega⟩
    simp only [groatref01_Put.l0]
    rw [if_neg (by omega)]
    by_cases h : n = 0
    · subst h; simp [digs]
    · rw [if_neg (by omega), if_neg (by omega)]; rfl
  | d + 1, k, i, n, acc, hi, hk, ha, hn => by
    obtain ⟨k, rfl⟩ : ∃ m, k = m + 1 := ⟨k - 1, by omega⟩
    have ih := ref01_Put_l w hw d k (i + 1) (n / 10) (u8 (48 + n % 10) :: acc) (by omega) (by omega) (by simp [ha]) (by omega)
    simp only [groatref01_Put.l0]
    have b1 : n / 10 ≤ 9223372036854775807 := by omega
    have b2 : i < 9223372036854775807 := by omega
    have b3 : n % 10 < 10 := by omega
    have b4 : (i : Int) < (w : Int) := by omega
    have b5 : 1 + acc.length ≤ 9223372036854775807 := by omega
    have hp : n / 10 < 10 ^ d ↔ n < 10 ^ (d + 1) := by rw [Nat.pow_succ]; omega
    have e0 : Int.tmod (n : Int) 10 = ((n % 10 : Nat) : Int) := tmod_nat n 10
    have e1 : Int.tdiv (n : Int) 10 = ((n / 10 : Nat) : Int) := tdiv_nat n 10
    have e2 : wrap64 (48 + ((n % 10 : Nat) : Int)) % 256 = ((48 + n % 10 : Nat) : Int) := wrap_dig (n % 10) b3
    have e3 : wrap64 (((n / 10 : Nat) : Int)) = ((n / 10 : Nat) : Int) := wrap64_nat b1
    have e4 : wrap64 ((i : Int) + 1) = ((i + 1 : Nat) : Int) := wrap64_succ b2
    have e5 : strOfNums [((48 + n % 10 : Nat) : Int)] = sb [u8 (48 + n % 10)] := strOne _
    rw [if_pos b4, e0, e1, e2, e3, e4]
    simp only [Option.bind_some]
    rw [e5, if_pos (by rw [size_sb, size_sb]; exact b5), sb_append]
    show groatref01_Put.l0 k _ _ (sb (u8 (48 + n % 10) :: acc)) _ = _
    rw [ih]
    by_cases h : n < 10 ^ (d + 1)
    · rw [if_pos (hp.2 h), if_pos h, digs]; simp
    · rw [if_neg (fun h' => h (hp.1 h')), if_neg h]
theorem ref01_Put (n w : Int) (hn : n ≤ 9223372036854775807) (k : Nat) (hk : 20 ≤ k) : groatref01_Put.f k n w = some (putNum n w) := by
  obtain ⟨k, rfl⟩ : ∃ m, k = m + 1 := ⟨k - 1, by omega⟩
  unfold groatref01_Put.f putNum
  by_cases h1 : n < 0
  · rw [if_pos h1, if_pos (.inl h1)]; simp [groatref01_Put.j0, empty_sb]
  · rw [if_neg h1]
    by_cases h2 : w < 1
    · rw [if_pos h2, if_pos (.inr (.inl h2))]; simp [groatref01_Put.j0, empty_sb]
    · rw [if_neg h2]
      by_cases h3 : 18 < w
      · rw [if_pos (.inr (.inr (.inl h3)))]; simp [groatref01_Put.j0, empty_sb, h3]
      · obtain ⟨m, rfl⟩ := Int.eq_ofNat_of_zero_le (show 0 ≤ n by omega)
        obtain ⟨v, rfl⟩ := Int.eq_ofNat_of_zero_le (show 0 ≤ w by omega)
        have := ref01_Put_l v (by omega) v k 0 m [] (by omega) (by omega) rfl (by omega)
        have e : decide ((v : Int) > 18) = false := decide_eq_false (by omega)
        rw [e]
        simp only [groatref01_Put.j0, Bool.false_eq_true, if_false, empty_sb, Int.toNat_natCast]
        rw [show (0 : Int) = ((0 : Nat) : Int) from rfl, this]
        by_cases h4 : m < 10 ^ v
        · rw [if_pos h4, if_neg (by omega)]; simp
        · rw [if_neg h4, if_pos (.inr (.inr (.inr h4)))]
end Go.Proofs.Ytfaeodcapagjbaa.Sp
