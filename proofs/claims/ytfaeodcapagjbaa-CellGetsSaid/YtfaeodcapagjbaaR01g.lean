/- What the reference's Get answers. -/
import Derived.Test.YtfaeodcapagjbaaR01a
import Derived.Test.YtfaeodcapagjbaaBa2
import Derived.Test.YtfaeodcapagjbaaPx20
namespace Go.Proofs.Ytfaeodcapagjbaa.Sp
open Go.RowKit Go.Proofs.YtfaeodcapagjbaaW.PrintWords Go.Proofs.YtfaeodcapagjbaaW.PrintLast Go.Proofs.YtfaeodcapagjbaaW.PrintMore Go.Proofs.Ytfaeodcapagjbaa.P
set_option linter.unusedVariables false
set_option linter.unusedSimpArgs false
theorem wrap_num (n c : Nat) (h : n < 100000000000000000) (h1 : 48 ≤ c) (h2 : c ≤ 57) : wrap64 (wrap64 (wrap64 (10 * (n : Int)) + wrap64 (c : Int)) - 48) = ((10 * n + (c - 48) : Nat) : Int) := by
  rw [wrap64_id (x := 10 * (n : Int)) (by omega) (by omega), wrap64_nat (by omega), wrap64_id (x := 10 * (n : Int) + c) (by omega) (by omega), wrap64_id (by omega) (by omega)]; omega
set_option maxHeartbeats 1000000 in
theorem ref01_Get_l (l : List UInt8) (hl : l.length ≤ 18) (hd : l.all dig = true) : ∀ (d k i n : Nat), i + d = l.length → d < k → n < 10 ^ i →
    groatref01_Get.l0 k (sb l) (n : Int) (i : Int) = some (((numFrom n (l.drop i) : Nat) : Int), true)
  | 0, k, i, n, hi, hk, hn => by
    obtain ⟨k, rfl⟩ : ∃ m, k = m + 1 := ⟨k - 1, by omega⟩
    simp only [groatref01_Get.l0]
    rw [if_neg (by rw [size_sb]; omega), List.drop_of_length_le (by omega)]; rfl
  | d + 1, k, i, n, hi, hk, hn => by
    obtain ⟨k, rfl⟩ : ∃ m, k = m + 1 := ⟨k - 1, by omega⟩
    have hlt : i < l.length := by omega
    have hc := (dig_iff l[i]).1 (List.all_eq_true.1 hd _ (List.getElem_mem hlt))
    have hp : 10 ^ i ≤ 100000000000000000 := Nat.le_trans (Nat.pow_le_pow_right (by decide) (show i ≤ 17 by omega)) (by decide : 10 ^ 17 ≤ 100000000000000000)
    have hn' : 10 * n + (l[i].toNat - 48) < 10 ^ (i + 1) := by rw [Nat.pow_succ]; omega
    have ih := ref01_Get_l l hl hd d k (i + 1) (10 * n + (l[i].toNat - 48)) (by omega) (by omega) hn'
    have b2 : i < 9223372036854775807 := by omega
    have b4 : (i : Int) < (l.length : Int) := by omega
    have b5 : 0 ≤ (i : Int) := by omega
    simp only [groatref01_Get.l0]
    rw [if_pos (by rw [size_sb]; exact b4), if_pos b5, bt_sb, List.getElem?_eq_getElem hlt, Option.getD_some]
    have e1 := wrap_num n l[i].toNat (by omega) hc.1 hc.2
    have e5 : wrap64 ((i : Int) + 1) = ((i + 1 : Nat) : Int) := wrap64_succ b2
    rw [e1, e5, ih, List.drop_eq_getElem_cons hlt]; rfl
theorem ref01_Get (l : List UInt8) (hl : l.length ≤ 140737488351232) (k : Nat) (hk : l.length + 1 < k) : groatref01_Get.f k (sb l) = some (getNum l) := by
  obtain ⟨k, rfl⟩ : ∃ m, k = m + 1 := ⟨k - 1, by omega⟩
  unfold groatref01_Get.f getNum
  by_cases h1 : l.length < 1
  · rw [if_pos (by rw [size_sb]; omega), if_pos (.inl h1)]; simp [groatref01_Get.j0]
  · rw [if_neg (by rw [size_sb]; omega)]
    by_cases h2 : 18 < l.length
    · rw [if_pos (by rw [size_sb]; omega), if_pos (.inr (.inl h2))]; simp [groatref01_Get.j0]
    · rw [if_neg (by rw [size_sb]; omega), ref01_All l hl _ (by omega), Option.bind_some]
      cases hd : l.all dig with
      | false => rw [if_pos (.inr (.inr rfl))]; simp [groatref01_Get.j0]
      | true =>
        rw [if_neg (by intro h; rcases h with h | h | h; exact h1 h; exact h2 h; cases h)]
        have := ref01_Get_l l (by omega) hd l.length k 0 0 (by omega) (by omega) (by decide)
        simpa [groatref01_Get.j0, num] using this
end Go.Proofs.Ytfaeodcapagjbaa.Sp
