/- What the reference's Wider answers. -/
import Derived.Test.YtfaeodcapagjbaaClsW
import Derived.Test.YtfaeodcapagjbaaPx10
namespace Go.Proofs.Ytfaeodcapagjbaa.Sp
open Go.RowKit Go.Proofs.Ytfaeodcapagjbaa.P Go.Proofs.YtfaeodcapagjbaaW.PrintWords Go.Proofs.YtfaeodcapagjbaaW.PrintLast
set_option linter.unusedVariables false
set_option linter.unusedSimpArgs false
theorem wider36 : ∀ (a b : Fin 6), groatref04_Wider.f 300 ((a.val + 1 : Nat) : Int) ((b.val + 1 : Nat) : Int) = some (widC ((a.val + 1 : Nat) : Int) ((b.val + 1 : Nat) : Int)) := by decide +kernel
theorem wider_out (a b : Int) (h : ¬ ((1 ≤ a ∧ a ≤ 6) ∧ (1 ≤ b ∧ b ≤ 6))) : groatref04_Wider.f 300 a b = some (widC a b) := by
  have e : widC a b = false := by
    cases hw : widC a b with
    | false => rfl
    | true => exact absurd (wid_range hw) h
  have j : ∀ n, groatref04_Wider.j0 (n + 1) a b true = some false := fun n => by simp [groatref04_Wider.j0]
  rw [e]
  unfold groatref04_Wider.f
  by_cases h1 : a < 1
  · rw [if_pos h1]; exact j 299
  · rw [if_neg h1]
    by_cases h2 : a > 6
    · rw [if_pos h2]; exact j 299
    · rw [if_neg h2]
      by_cases h3 : b < 1
      · rw [if_pos h3]; exact j 299
      · rw [if_neg h3, show decide (b > 6) = true from decide_eq_true (by omega)]; exact j 299
theorem ref04_Wider (a b : Int) : groatref04_Wider.f 300 a b = some (widC a b) := by
  by_cases h : (1 ≤ a ∧ a ≤ 6) ∧ (1 ≤ b ∧ b ≤ 6)
  · obtain ⟨m, rfl⟩ : ∃ m : Fin 6, a = ((m.val + 1 : Nat) : Int) := ⟨⟨(a - 1).toNat, by omega⟩, by simp; omega⟩
    obtain ⟨n, rfl⟩ : ∃ m : Fin 6, b = ((m.val + 1 : Nat) : Int) := ⟨⟨(b - 1).toNat, by omega⟩, by simp; omega⟩
    exact wider36 m n
  · exact wider_out a b h
end Go.Proofs.Ytfaeodcapagjbaa.Sp
