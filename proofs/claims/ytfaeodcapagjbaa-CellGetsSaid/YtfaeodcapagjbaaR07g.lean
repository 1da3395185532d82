/- What the reference's Get on lengths answers. -/
import Derived.Test.YtfaeodcapagjbaaPreS
import Derived.Test.YtfaeodcapagjbaaR01g
import Derived.Test.YtfaeodcapagjbaaR03g
import Derived.Test.YtfaeodcapagjbaaPx13
import Derived.Test.YtfaeodcapagjbaaPx20
namespace Go.Proofs.Ytfaeodcapagjbaa.Sp
open Go.RowKit Go.Proofs.YtfaeodcapagjbaaW.PrintWords Go.Proofs.YtfaeodcapagjbaaW.PrintLast Go.Proofs.YtfaeodcapagjbaaW.PrintMore Go.Proofs.Ytfaeodcapagjbaa.P
set_option linter.unusedVariables false
set_option linter.unusedSimpArgs false
theorem rg_Width (f : Int) : groatref07_Width.f f = some (if f = 2 ∨ f = 3 then f else 0) := by
  unfold groatref07_Width.f
  by_cases h : f = 2
  · subst h; rfl
  · rw [if_neg h]
    by_cases h' : f = 3
    · subst h'; rfl
    · rw [if_neg h', if_neg (by omega)]
theorem rcut_sb (b : List UInt8) (a n : Nat) : (sb b).extract a (a + n) = sb ((b.drop a).take n) := by
  rw [sb_extract]
  congr 1
  rw [← List.take_drop]
theorem ref07_Get_j1 (s f : Int) (b : List UInt8) (hb : b.length ≤ 140737488351232) (a : Nat) (ha : a ≤ b.length) (hk : preOk s f = true) (k : Nat) (hk2 : 2200 < k) :
    groatref07_Get.j1 (k + 1) s f (sb b) (a : Int) (preSize s f : Int) = some (preGet s f b (a : Int)) := by
  obtain ⟨hs, hf⟩ := preOk_iff hk
  have hsz : preSize s f ≤ 3 := by unfold preSize; split <;> omega
  have c1 : -9223372036854775808 ≤ (b.length : Int) - (a : Int) := by omega
  have c2 : (b.length : Int) - (a : Int) ≤ 9223372036854775807 := by omega
  have c3 : -9223372036854775808 ≤ (a : Int) + (preSize s f : Int) := by omega
  have c4 : (a : Int) + (preSize s f : Int) ≤ 9223372036854775807 := by omega
  have c5 : 0 ≤ (a : Int) := by omega
  have c6 : (a : Int) ≤ (a : Int) + (preSize s f : Int) := by omega
  have c7 : ((a : Int) + (preSize s f : Int)).toNat = a + preSize s f := by omega
  have c8 : (a : Int) ≤ (b.length : Int) := by omega
  have hx : (sb b).extract (a : Int).toNat ((a : Int) + (preSize s f : Int)).toNat = sb ((b.drop a).take (preSize s f)) := by rw [Int.toNat_natCast, c7, rcut_sb]
  have hcl : ((b.drop a).take (preSize s f)).length ≤ 3 := by rw [List.length_take]; omega
  unfold preGet
  rw [if_pos ⟨hk, c5, c8⟩, Int.toNat_natCast, groatref07_Get.j1, size_sb, wrap64_id c1 c2, wrap64_id c3 c4, hx]
  by_cases h1 : (b.length : Int) - (a : Int) < (preSize s f : Int)
  · rw [if_pos h1, if_pos h1]
  · have c9 : (a : Int) + (preSize s f : Int) ≤ (b.length : Int) := by omega
    rw [if_neg h1, if_neg h1, if_pos c5, if_pos c6, if_pos c9]
    by_cases h2 : s = 2
    · rw [if_pos h2, ref03_Get _ (by omega) f (by omega) k (by omega), Option.bind_some]
      simp only [preDigits, h2, if_true]
      by_cases h3 : (bcdGet ((b.drop a).take (preSize 2 f)) f).2.1 = 0
      · have hgl : (bcdGet ((b.drop a).take (preSize 2 f)) f).1.length ≤ 3 := by
          have h' : bcdGet ((b.drop a).take (preSize 2 f)) f = ((bcdGet ((b.drop a).take (preSize 2 f)) f).1, 0, (bcdGet ((b.drop a).take (preSize 2 f)) f).2.2) := by rw [← h3]
          obtain ⟨-, -, -, -, g, -, -⟩ := bcdGet_ok h'
          omega
        rw [if_pos h3, if_pos h3, ref01_Get _ (by omega) k (by omega)]
        simp only [Option.bind_some]
        split <;> rfl
      · rw [if_neg h3, if_neg h3]
    · rw [if_neg h2, ref01_Get _ (by omega) k (by omega)]
      simp only [preDigits, h2, if_false, Option.bind_some, if_true]
      split <;> rfl
theorem ref07_Get (s f : Int) (b : List UInt8) (hb : b.length ≤ 140737488351232) (a : Int) (k : Nat) (hk : 2202 < k) : groatref07_Get.f k s f (sb b) a = some (preGet s f b a) := by
  obtain ⟨k, rfl⟩ : ∃ m, k = m + 2 := ⟨k - 2, by omega⟩
  have no : ¬ (preOk s f = true ∧ 0 ≤ a ∧ a ≤ (b.length : Int)) → groatref07_Get.j0 (k + 2) s f (sb b) a true = some (preGet s f b a) := by
    intro h
    unfold preGet
    rw [if_neg h]; simp [groatref07_Get.j0]
  have yes : preOk s f = true → ¬ a < 0 → groatref07_Get.j0 (k + 2) s f (sb b) a (decide (a > ((sb b).size : Int))) = some (preGet s f b a) := by
    intro h1 h2
    rw [size_sb]
    by_cases h3 : a > (b.length : Int)
    · rw [decide_eq_true h3]; exact no (by omega)
    · obtain ⟨v, rfl⟩ := Int.eq_ofNat_of_zero_le (show 0 ≤ a by omega)
      obtain ⟨hs, hf⟩ := preOk_iff h1
      have j1 := ref07_Get_j1 s f b hb v (by omega) h1 k (by omega)
      rw [decide_eq_false h3]
      show groatref07_Get.j0 (k + 1 + 1) _ _ _ _ _ = _
      rw [groatref07_Get.j0, if_neg (by decide)]
      by_cases h4 : s = 2
      · have e : (preSize s f : Int) = f - 1 := by unfold preSize; rw [if_pos h4]; omega
        have c1 : -9223372036854775808 ≤ f - 1 := by omega
        have c2 : f - 1 ≤ 9223372036854775807 := by omega
        rw [e] at j1
        rw [if_pos h4, wrap64_id c1 c2]; exact j1
      · have e : (preSize s f : Int) = f := by unfold preSize; rw [if_neg h4]; omega
        rw [e] at j1
        rw [if_neg h4]; exact j1
  unfold groatref07_Get.f
  rw [rg_Width]
  simp only [Option.bind_some]
  by_cases hf : f = 2 ∨ f = 3
  · rw [if_pos hf, if_neg (show ¬ f = 0 by omega)]
    by_cases h : s = 1
    · have hk : preOk s f = true := decide_eq_true ⟨.inl h, hf⟩
      rw [if_pos h]
      by_cases h2 : a < 0
      · rw [if_pos h2]; exact no (by omega)
      · rw [if_neg h2]; exact yes hk h2
    · rw [if_neg h]
      by_cases h' : s = 2
      · have hk : preOk s f = true := decide_eq_true ⟨.inr h', hf⟩
        rw [if_pos h']
        by_cases h2 : a < 0
        · rw [if_pos h2]; exact no (by omega)
        · rw [if_neg h2]; exact yes hk h2
      · rw [if_neg h']
        exact no (fun h0 => by have := (preOk_iff h0.1).1; omega)
  · have hn : ¬ (preOk s f = true ∧ 0 ≤ a ∧ a ≤ (b.length : Int)) := fun h0 => hf (preOk_iff h0.1).2
    rw [if_neg hf, if_pos rfl, no hn]
    split
    · rfl
    · split <;> rfl
end Go.Proofs.Ytfaeodcapagjbaa.Sp
