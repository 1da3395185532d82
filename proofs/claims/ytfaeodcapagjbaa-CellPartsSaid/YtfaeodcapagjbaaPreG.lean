/- What the program's Get on lengths answers. -/
import Derived.Test.YtfaeodcapagjbaaPreP
import Derived.Test.YtfaeodcapagjbaaPx6
import Derived.Test.YtfaeodcapagjbaaPx7
namespace Go.Proofs.Ytfaeodcapagjbaa.Sp
open Go.RowKit Go.Proofs.YtfaeodcapagjbaaW.PrintWords Go.Proofs.YtfaeodcapagjbaaW.PrintLast Go.Proofs.YtfaeodcapagjbaaW.PrintMore Go.Proofs.Ytfaeodcapagjbaa.P
set_option linter.unusedVariables false
set_option linter.unusedSimpArgs false
theorem digits_Get (l : List UInt8) : digits_Get.f (sb l) = some (getNum l) := rfl
theorem cut_sb (b : List UInt8) (a n : Nat) : (sb b).extract a (a + n) = sb ((b.drop a).take n) := by
  rw [sb_extract]
  congr 1
  rw [← List.take_drop]
theorem prefix_Get_j1 (s f : Int) (b : List UInt8) (hb : b.length ≤ 140737488351232) (a : Nat) (ha : a ≤ b.length) (hk : preOk s f = true) (k : Nat) (hk2 : 1100 < k) :
    prefix_Get.j1 (k + 1) s f (sb b) (a : Int) (preSize s f : Int) = some (preGet s f b (a : Int)) := by
  obtain ⟨hs, hf⟩ := preOk_iff hk
  have hsz : preSize s f ≤ 3 := by unfold preSize; split <;> omega
  have c1 : -9223372036854775808 ≤ (b.length : Int) - (a : Int) := by omega
  have c2 : (b.length : Int) - (a : Int) ≤ 9223372036854775807 := by omega
  have c3 : -9223372036854775808 ≤ (a : Int) + (preSize s f : Int) := by omega
  have c4 : (a : Int) + (preSize s f : Int) ≤ 9223372036854775807 := by omega
  have c5 : 0 ≤ (a : Int) := by omega
  have c6 : (a : Int) ≤ (a : Int) + (preSize s f : Int) := by omega
  have c7 : ((a : Int) + (preSize s f : Int)).toNat = a + preSize s f := by omega
  have c8 : (a : Int) ≤ (b.length : Int) := by omega
  have hx : (sb b).extract (a : Int).toNat ((a : Int) + (preSize s f : Int)).toNat = sb ((b.drop a).take (preSize s f)) := by rw [Int.toNat_natCast, c7, cut_sb]
  unfold preGet
  rw [if_pos ⟨hk, c5, c8⟩, Int.toNat_natCast, prefix_Get.j1, size_sb, wrap64_id c1 c2, wrap64_id c3 c4, hx]
  by_cases h1 : (b.length : Int) - (a : Int) < (preSize s f : Int)
  · rw [if_pos h1, if_pos h1]
  · have c9 : (a : Int) + (preSize s f : Int) ≤ (b.length : Int) := by omega
    rw [if_neg h1, if_neg h1, if_pos c5, if_pos c6, if_pos c9]
    by_cases h2 : s = 2
    · rw [if_pos h2, prefix_width, Option.bind_some, if_pos hf, bcd_Get _ f (by omega) k (by omega), Option.bind_some]
      simp only [preDigits, h2, if_true]
      rw [digits_Get]
      simp only [Option.bind_some]
      by_cases h3 : (bcdGet ((b.drop a).take (preSize 2 f)) f).2.1 = 0
      · rw [if_pos h3, if_pos h3]
        split <;> rfl
      · rw [if_neg h3, if_neg h3]
    · rw [if_neg h2, digits_Get]
      simp only [preDigits, h2, if_false, Option.bind_some, if_true]
      split <;> rfl
theorem prefix_Get (s f : Int) (b : List UInt8) (hb : b.length ≤ 140737488351232) (a : Int) (k : Nat) (hk : 1102 < k) : prefix_Get.f k s f (sb b) a = some (preGet s f b a) := by
  obtain ⟨k, rfl⟩ : ∃ m, k = m + 2 := ⟨k - 2, by omega⟩
  have no : ∀ m, ¬ (preOk s f = true ∧ 0 ≤ a ∧ a ≤ (b.length : Int)) → prefix_Get.j0 (m + 1) s f (sb b) a true = some (preGet s f b a) := by
    intro m h
    unfold preGet
    rw [if_neg h]; simp [prefix_Get.j0]
  unfold prefix_Get.f
  rw [prefix_known, Option.bind_some]
  by_cases h1 : preOk s f = true
  · rw [if_pos h1]
    by_cases h2 : a < 0
    · rw [if_pos h2]; exact no (k + 1) (by omega)
    · rw [if_neg h2, size_sb]
      by_cases h3 : a > (b.length : Int)
      · rw [decide_eq_true h3]; exact no (k + 1) (by omega)
      · obtain ⟨v, rfl⟩ := Int.eq_ofNat_of_zero_le (show 0 ≤ a by omega)
        obtain ⟨hs, hf⟩ := preOk_iff h1
        have j1 := prefix_Get_j1 s f b hb v (by omega) h1 k (by omega)
        rw [decide_eq_false h3]
        show prefix_Get.j0 (k + 1 + 1) _ _ _ _ _ = _
        rw [prefix_Get.j0, if_neg (by decide), prefix_width, Option.bind_some, if_pos hf]
        by_cases h4 : s = 2
        · obtain ⟨w, rfl⟩ := Int.eq_ofNat_of_zero_le (show 0 ≤ f by omega)
          have e : preSize s (w : Int) = (w + 1) / 2 := by unfold preSize; rw [if_pos h4, Int.toNat_natCast]
          rw [e] at j1
          rw [if_pos h4, bcd_Size w (by omega), Option.bind_some]
          exact j1
        · have e : (preSize s f : Int) = f := by unfold preSize; rw [if_neg h4]; omega
          rw [e] at j1
          rw [if_neg h4]; exact j1
  · rw [if_neg h1]; exact no (k + 1) (fun h => h1 h.1)
end Go.Proofs.Ytfaeodcapagjbaa.Sp
