/- What the reference's Put of a field answers: the program's. -/
import Derived.Test.YtfaeodcapagjbaaCell
import Derived.Test.YtfaeodcapagjbaaR07p
import Derived.Test.YtfaeodcapagjbaaR03p
import Derived.Test.YtfaeodcapagjbaaR02p
import Derived.Test.YtfaeodcapagjbaaPx25
import Derived.Test.YtfaeodcapagjbaaPx26
namespace Go.Proofs.Ytfaeodcapagjbaa.Sp
open Go.RowKit Go.Proofs.YtfaeodcapagjbaaW.PrintWords Go.Proofs.YtfaeodcapagjbaaW.PrintLast Go.Proofs.YtfaeodcapagjbaaW.PrintMore Go.Proofs.Ytfaeodcapagjbaa.P
set_option linter.unusedVariables false
set_option linter.unusedSimpArgs false
theorem ref12_content (st c : Int) (hs : st = 1 ∨ st = 2) (hc : 1 ≤ c ∧ c ≤ 6) (l : List UInt8) (hl : l.length ≤ 999) (k : Nat) (hk : 2100 < k) : groatref12_content.f k st c (sb l) = some (sb (cellBody (cellHow st c) l)) := by
  obtain ⟨k, rfl⟩ : ∃ m, k = m + 1 := ⟨k - 1, by omega⟩
  unfold groatref12_content.f cellBody cellHow
  simp only [groatref12_content.j0]
  rw [ref03_Put l (by omega) _ (by omega), ref02_Put l (by omega) _ (by omega)]
  rcases hs with rfl | rfl
  · by_cases h5 : c ≥ 5
    · have h6 : c = 5 ∨ c = 6 := by omega
      simp [h5, h6]
    · have h6 : ¬ (c = 5 ∨ c = 6) := by omega
      simp [h5, h6]
  · by_cases h1 : c = 1
    · simp [h1]
    · simp [h1]
theorem ref12_Put (st no c fo mi ma : Int) (l : List UInt8) (k : Nat) (hk : 4010 ≤ k) : groatref12_Put.f k st no c fo mi ma (sb l) = some (sb (cellPut st no c fo mi ma l).1, (cellPut st no c fo mi ma l).2) := by
  obtain ⟨k, rfl⟩ : ∃ m, k = m + 1 := ⟨k - 1, by omega⟩
  have hbad : groatref12_Put.j0 (k + 1) st (sb l) true no c fo mi ma = some (sb [], 1) := by simp only [groatref12_Put.j0, if_true]; rfl
  have hgood : (st = 1 ∨ st = 2) → groatref12_Put.j0 (k + 1) st (sb l) false no c fo mi ma = some (sb (cellPut st no c fo mi ma l).1, (cellPut st no c fo mi ma l).2) := by
    intro h1
    unfold cellPut
    rw [if_neg (not_not_intro h1)]
    simp only [groatref12_Put.j0]
    rw [if_neg (by decide), ref11_Value _ _ _ _ _ _ _ (by omega), Option.bind_some]
    by_cases h2 : specV no c fo mi ma l = 0
    · have hl := specV_len h2
      have hz := specE_zero (specV_zero h2).1
      have hb := body_length st c l hl
      have hh := head_length st fo l.length hz.2.2.1
      have b1 : (cellHead st fo l.length).length + (cellBody (cellHow st c) l).length ≤ 9223372036854775807 := by omega
      rw [if_pos h2, if_neg (not_not_intro h2), ref12_content st c h1 hz.2.1 l hl _ (by omega)]
      unfold cellHead at b1 ⊢
      by_cases h3 : fo = 1
      · rw [if_pos h3] at b1
        simp only [List.length_nil] at b1
        rw [if_pos h3, if_pos h3, Option.bind_some, size_sb, if_pos b1, empty_sb, sb_append]
      · rw [if_neg h3] at b1
        rw [if_neg h3, if_neg h3, size_sb, ref07_Put _ _ _ (by omega) _ (by omega), Option.bind_some, Option.bind_some]
        dsimp only
        rw [size_sb, size_sb, if_pos b1, sb_append]
    · rw [if_neg h2, if_pos h2]; rfl
  unfold groatref12_Put.f
  by_cases h1 : st = 1
  · rw [if_pos h1]; exact hgood (Or.inl h1)
  · rw [if_neg h1]
    by_cases h2 : st = 2
    · rw [show (st != 2) = false by rw [h2]; rfl]; exact hgood (Or.inr h2)
    · rw [show (st != 2) = true from bne_iff_ne.2 h2, hbad]
      unfold cellPut
      rw [if_pos (by intro h; rcases h with h | h <;> contradiction)]
end Go.Proofs.Ytfaeodcapagjbaa.Sp
