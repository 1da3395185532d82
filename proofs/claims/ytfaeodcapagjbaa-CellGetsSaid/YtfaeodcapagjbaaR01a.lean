/- What the reference's Digit and All answer. -/
import Derived.Test.YtfaeodcapagjbaaPx13
namespace Go.Proofs.Ytfaeodcapagjbaa.Sp
open Go.RowKit Go.Proofs.YtfaeodcapagjbaaW.PrintWords Go.Proofs.YtfaeodcapagjbaaW.PrintLast Go.Proofs.YtfaeodcapagjbaaW.PrintMore Go.Proofs.Ytfaeodcapagjbaa.P
set_option linter.unusedVariables false
set_option linter.unusedSimpArgs false
theorem ref01_Digit (c : UInt8) : groatref01_Digit.f (c.toNat : Int) = some (dig c) := by
  unfold groatref01_Digit.f
  by_cases h : 48 ≤ c.toNat
  · rw [if_pos (by omega)]
    have : decide ((c.toNat : Int) ≤ 57) = decide (c.toNat ≤ 57) := by rw [decide_eq_decide]; omega
    simp [dig, h, this]
  · rw [if_neg (by omega)]; simp [dig, h]
theorem ref01_All_l (l : List UInt8) (hl : l.length ≤ 140737488351232) : ∀ (d k i : Nat), i + d = l.length → d < k →
    groatref01_All.l0 k (sb l) (i : Int) = some ((l.drop i).all dig)
  | 0, k, i, hd, hk => by
    obtain ⟨k, rfl⟩ : ∃ m, k = m + 1 := ⟨k - 1, by omega⟩
    simp only [groatref01_All.l0]
    rw [if_neg (by rw [size_sb]; omega), List.drop_of_length_le (by omega)]; rfl
  | d + 1, k, i, hd, hk => by
    obtain ⟨k, rfl⟩ : ∃ m, k = m + 1 := ⟨k - 1, by omega⟩
    have hi : i < l.length := by omega
    simp only [groatref01_All.l0]
    rw [if_pos (by rw [size_sb]; omega), if_pos (by omega), bt_sb, List.getElem?_eq_getElem hi, Option.getD_some, ref01_Digit, Option.bind_some,
      List.drop_eq_getElem_cons hi, List.all_cons]
    cases h : dig l[i] with
    | true =>
      rw [if_pos rfl, wrap64_id (by omega) (by omega)]
      have := ref01_All_l l hl d k (i + 1) (by omega) (by omega)
      simpa using this
    | false => simp
theorem ref01_All (l : List UInt8) (hl : l.length ≤ 140737488351232) (k : Nat) (hk : l.length < k) : groatref01_All.f k (sb l) = some (l.all dig) := by
  have := ref01_All_l l hl l.length k 0 (by omega) hk
  simpa [groatref01_All.f] using this
end Go.Proofs.Ytfaeodcapagjbaa.Sp
