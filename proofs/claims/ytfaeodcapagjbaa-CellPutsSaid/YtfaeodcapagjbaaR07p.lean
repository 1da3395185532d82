/- What the reference's Put on lengths answers. -/
import Derived.Test.YtfaeodcapagjbaaPreS
import Derived.Test.YtfaeodcapagjbaaR01p
import Derived.Test.YtfaeodcapagjbaaR03p
import Derived.Test.YtfaeodcapagjbaaPx13
import Derived.Test.YtfaeodcapagjbaaPx25
namespace Go.Proofs.Ytfaeodcapagjbaa.Sp
open Go.RowKit Go.Proofs.YtfaeodcapagjbaaW.PrintWords Go.Proofs.YtfaeodcapagjbaaW.PrintLast Go.Proofs.YtfaeodcapagjbaaW.PrintMore Go.Proofs.Ytfaeodcapagjbaa.P
set_option linter.unusedVariables false
set_option linter.unusedSimpArgs false
theorem ref07_Width (f : Int) : groatref07_Width.f f = some (if f = 2 ∨ f = 3 then f else 0) := by
  unfold groatref07_Width.f
  by_cases h : f = 2
  · subst h; rfl
  · rw [if_neg h]
    by_cases h' : f = 3
    · subst h'; rfl
    · rw [if_neg h', if_neg (by omega)]
theorem ref07_Put_j (s f n : Int) (hn : n ≤ 9223372036854775807) (k : Nat) (hk : 1100 < k) (x : Bool) (hx : x = !preOk s f) : groatref07_Put.j0 (k + 1) s f n x = some (sb (prePut s f n).1, (prePut s f n).2) := by
  subst hx
  rw [groatref07_Put.j0]
  unfold prePut
  cases h1 : preOk s f with
  | false => simp [empty_sb]
  | true =>
    obtain ⟨-, hf⟩ := preOk_iff h1
    rw [if_neg (by decide), if_pos rfl, ref01_Put n f hn k (by omega), Option.bind_some]
    by_cases h2 : (putNum n f).2 = true
    · rw [if_pos h2, if_pos h2]
      by_cases h3 : s = 2
      · have hl : (bl (putNum n f).1).length ≤ 18 := by
          obtain ⟨w, rfl⟩ : ∃ w : Nat, f = (w : Int) := ⟨f.toNat, by omega⟩
          obtain ⟨-, -, -, hw, he⟩ := putNum_ok h2
          rw [he, bl_sb, digs_length]; omega
        have hb := ref03_Put (bl (putNum n f).1) (by omega) k (by omega)
        rw [sb_bl] at hb
        rw [if_pos h3, if_pos h3, hb]; rfl
      · rw [if_neg h3, if_neg h3, sb_bl]
    · rw [if_neg h2, if_neg h2]; rfl
theorem ref07_Put (s f n : Int) (hn : n ≤ 9223372036854775807) (k : Nat) (hk : 1102 < k) : groatref07_Put.f k s f n = some (sb (prePut s f n).1, (prePut s f n).2) := by
  obtain ⟨k, rfl⟩ : ∃ m, k = m + 1 := ⟨k - 1, by omega⟩
  unfold groatref07_Put.f
  rw [ref07_Width]
  simp only [Option.bind_some]
  by_cases h : s = 1
  · rw [if_pos h]
    refine ref07_Put_j s f n hn k (by omega) _ ?_
    unfold preOk
    by_cases hf : f = 2 ∨ f = 3
    · rw [if_pos hf, decide_eq_true ⟨.inl h, hf⟩]; simp; omega
    · rw [if_neg hf, decide_eq_false (by rintro ⟨-, h'⟩; exact hf h')]; rfl
  · rw [if_neg h]
    by_cases h' : s = 2
    · rw [if_pos h']
      refine ref07_Put_j s f n hn k (by omega) _ ?_
      unfold preOk
      by_cases hf : f = 2 ∨ f = 3
      · rw [if_pos hf, decide_eq_true ⟨.inr h', hf⟩]; simp; omega
      · rw [if_neg hf, decide_eq_false (by rintro ⟨-, h'⟩; exact hf h')]; rfl
    · rw [if_neg h']
      refine ref07_Put_j s f n hn k (by omega) _ ?_
      unfold preOk
      rw [decide_eq_false (by omega)]; rfl
end Go.Proofs.Ytfaeodcapagjbaa.Sp
