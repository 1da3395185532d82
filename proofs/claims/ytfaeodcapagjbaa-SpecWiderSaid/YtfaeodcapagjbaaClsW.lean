/- What the program's Wider answers. -/
import Derived.Test.YtfaeodcapagjbaaCls
import Derived.Test.YtfaeodcapagjbaaPx4
namespace Go.Proofs.Ytfaeodcapagjbaa.Sp
open Go.RowKit Go.Proofs.YtfaeodcapagjbaaW.PrintWords Go.Proofs.YtfaeodcapagjbaaW.PrintLast Go.Proofs.YtfaeodcapagjbaaW.PrintMore Go.Proofs.Ytfaeodcapagjbaa.P
set_option linter.unusedVariables false
set_option linter.unusedSimpArgs false
def widC (a b : Int) : Bool := decide (1 ≤ a ∧ a ≤ 6) && (decide (1 ≤ b ∧ b ≤ 6) && (Go.bits .andNot .i64 (setsC b) (setsC a) == 0))
theorem class_Wider (a b : Int) : class_Wider.f a b = some (widC a b) := by
  unfold class_Wider.f widC
  rw [class_Known, class_Known, class_sets, class_sets, known_iff, known_iff]
  simp only [Option.bind_some]
  cases decide (1 ≤ a ∧ a ≤ 6) <;> cases decide (1 ≤ b ∧ b ≤ 6) <;> rfl
/-- A wider class has all that the other one has. -/
theorem wid256 : ∀ (a b : Fin 6) (n : Fin 256), widC ((a.val + 1 : Nat) : Int) ((b.val + 1 : Nat) : Int) = true → inN ((b.val + 1 : Nat) : Int) ((n.val : Nat) : Int) = true → inN ((a.val + 1 : Nat) : Int) ((n.val : Nat) : Int) = true := by decide +kernel
theorem wid_range {a b : Int} (h : widC a b = true) : (1 ≤ a ∧ a ≤ 6) ∧ (1 ≤ b ∧ b ≤ 6) := by
  simp only [widC, Bool.and_eq_true, decide_eq_true_eq] at h
  exact ⟨h.1, h.2.1⟩
theorem wid_in {a b : Int} (h : widC a b = true) (x : UInt8) (hx : inC b x = true) : inC a x = true := by
  obtain ⟨ha, hb⟩ := wid_range h
  obtain ⟨m, rfl⟩ : ∃ m : Fin 6, a = ((m.val + 1 : Nat) : Int) := ⟨⟨(a - 1).toNat, by omega⟩, by simp; omega⟩
  obtain ⟨n, rfl⟩ : ∃ m : Fin 6, b = ((m.val + 1 : Nat) : Int) := ⟨⟨(b - 1).toNat, by omega⟩, by simp; omega⟩
  exact wid256 m n ⟨x.toNat, u8_lt x⟩ h hx
end Go.Proofs.Ytfaeodcapagjbaa.Sp
