/- ClassWider: of any two classes it is told whether the one has all that the other one has. No conditions beyond the statement's own. -/
import Derived.Test.YtjpeldblipfjnaaClsW
import Derived.Test.YtjpeldblipfjnaaPx5
namespace Go.Proofs.Ytjpeldblipfjnaa.Pure
open Go.RowKit Go.Proofs.Ytjpeldblipfjnaa.P Go.Proofs.YtjpeldblipfjnaaW.PrintWords Go.Proofs.YtjpeldblipfjnaaW.PrintLast Go.Proofs.Ytjpeldblipfjnaa.Sp
theorem awake04 : groatlaw04_awake.f 20 = some true := by decide +kernel
theorem wider36 : ∀ (a b : Fin 6), groatref04_Wider.f 300 ((a.val + 1 : Nat) : Int) ((b.val + 1 : Nat) : Int) = some (widC ((a.val + 1 : Nat) : Int) ((b.val + 1 : Nat) : Int)) := by decide +kernel
theorem wider_out (a b : Int) (h : ¬ ((1 ≤ a ∧ a ≤ 6) ∧ (1 ≤ b ∧ b ≤ 6))) : groatref04_Wider.f 300 a b = some (widC a b) := by
  have e : widC a b = false := by
    cases hw : widC a b with
    | false => rfl
    | true => exact absurd (wid_range hw) h
  have j : ∀ n, groatref04_Wider.j0 (n + 1) a b true = some false := fun n => by simp [groatref04_Wider.j0]
  rw [e]
  unfold groatref04_Wider.f
  by_cases h1 : a < 1
  · rw [if_pos h1]; exact j 299
  · rw [if_neg h1]
    by_cases h2 : a > 6
    · rw [if_pos h2]; exact j 299
    · rw [if_neg h2]
      by_cases h3 : b < 1
      · rw [if_pos h3]; exact j 299
      · rw [if_neg h3, show decide (b > 6) = true from decide_eq_true (by omega)]; exact j 299
theorem ref04_Wider (a b : Int) : groatref04_Wider.f 300 a b = some (widC a b) := by
  by_cases h : (1 ≤ a ∧ a ≤ 6) ∧ (1 ≤ b ∧ b ≤ 6)
  · obtain ⟨m, rfl⟩ : ∃ m : Fin 6, a = ((m.val + 1 : Nat) : Int) := ⟨⟨(a - 1).toNat, by omega⟩, by simp; omega⟩
    obtain ⟨n, rfl⟩ : ∃ m : Fin 6, b = ((m.val + 1 : Nat) : Int) := ⟨⟨(b - 1).toNat, by omega⟩, by simp; omega⟩
    exact wider36 m n
  · exact wider_out a b h
theorem ClassWider : groatlaw04_ClassWider.Pure := by
  intro a b ha hb
  refine ⟨300, ?_⟩
  unfold groatlaw04_ClassWider.f
  rw [at_rounds groatlaw04_awake.mono (by decide : 20 ≤ 300) awake04, class_Wider, ref04_Wider]
  simp
end Go.Proofs.Ytjpeldblipfjnaa.Pure
