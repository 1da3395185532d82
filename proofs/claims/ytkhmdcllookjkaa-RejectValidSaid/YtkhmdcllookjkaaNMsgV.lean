/- A right message keeps right without a value, and with one that is right alone. -/
import Derived.Test.YtkhmdcllookjkaaNMsg
namespace Go.Proofs.Ytkhmdcllookjkaa.Sp
open Go Go.RowKit
set_option linter.unusedVariables false
set_option linter.unusedSimpArgs false
/-- Is a value right by a schema? -/
def rightV (s : List S5) (v : V) : Prop := (findS v.1 s).2 = true ∧ specV (findS v.1 s).1.1 (findS v.1 s).1.2.1 (findS v.1 s).1.2.2.1 (findS v.1 s).1.2.2.2.1 (findS v.1 s).1.2.2.2.2 (bl v.2) = 0
inductive Rise (s : List S5) : Int → List V → Prop
  | nil {p} : Rise s p []
  | cons {p : Int} {v : V} {m : List V} : p < v.1 → rightV s v → Rise s v.1 m → Rise s p (v :: m)
theorem valE_zero (s : List S5) : ∀ (l : List V) (p : Int), 0 ≤ p → ((valE s p l).1 = 0 ↔ Rise s p l) ∧ ((valE s p l).1 = 0 → valE s p l = (0, 0))
  | [], p, hp => ⟨⟨fun _ => .nil, fun _ => rfl⟩, fun _ => rfl⟩
  | v :: m, p, hp => by
    rw [valE]
    by_cases c1 : v.1 ≤ p
    · rw [if_pos c1]
      exact ⟨⟨fun h => (by cases h), fun h => (by cases h with | cons h1 h2 h3 => omega)⟩, fun h => (by cases h)⟩
    rw [if_neg c1]
    by_cases c2 : (findS v.1 s).2 = false
    · rw [if_pos c2]
      exact ⟨⟨fun h => (by cases h), fun h => (by cases h with | cons h1 h2 h3 => rw [h2.1] at c2; cases c2)⟩, fun h => (by cases h)⟩
    rw [if_neg c2]
    have c2' : (findS v.1 s).2 = true := by simpa using c2
    by_cases c3 : specV (findS v.1 s).1.1 (findS v.1 s).1.2.1 (findS v.1 s).1.2.2.1 (findS v.1 s).1.2.2.2.1 (findS v.1 s).1.2.2.2.2 (bl v.2) = 0
    · rw [if_neg (not_not_intro c3)]
      obtain ⟨h1, h2⟩ := valE_zero s m v.1 (by omega)
      exact ⟨⟨fun h => .cons (by omega) ⟨c2', c3⟩ (h1.1 h), fun h => (by cases h with | cons _ _ h3 => exact h1.2 h3)⟩, h2⟩
    · rw [if_pos c3]
      exact ⟨⟨fun h => absurd h c3, fun h => (by cases h with | cons h1 h2 h3 => exact absurd h2.2 c3)⟩, fun h => absurd h c3⟩
theorem Rise.lower {s : List S5} {p q : Int} {l : List V} (h : Rise s p l) (hq : q ≤ p) : Rise s q l := by
  cases h with
  | nil => exact .nil
  | cons h1 h2 h3 => exact .cons (by omega) h2 h3
theorem Rise.without {s : List S5} (n : Int) : ∀ {l : List V} {p : Int}, Rise s p l → Rise s p (without n l)
  | [], p, h => .nil
  | v :: m, p, h => by
    cases h with
    | cons h1 h2 h3 =>
      have ih := Rise.without n h3
      unfold Sp.without at *
      rw [List.filter_cons]
      split
      · exact .cons h1 h2 ih
      · exact ih.lower (by omega)
theorem Rise.ins {s : List S5} {n : Int} {x : ByteArray} : ∀ {l : List V} {p : Int}, (∀ v ∈ l, v.1 ≠ n) → Rise s p l → (Rise s p (insV n x l) ↔ p < n ∧ rightV s (n, x))
  | [], p, _, _ => ⟨fun h => (by cases h with | cons h1 h2 h3 => exact ⟨h1, h2⟩), fun h => .cons h.1 h.2 .nil⟩
  | v :: m, p, hne, h => by
    cases h with
    | cons h1 h2 h3 =>
      rw [insV]
      have hv := hne v (List.mem_cons_self ..)
      split
      · rename_i hn
        exact ⟨fun h => (by cases h with | cons q1 q2 q3 => exact ⟨q1, q2⟩), fun h => .cons h.1 h.2 (.cons hn h2 h3)⟩
      · rename_i hn
        have ih := Rise.ins (n := n) (x := x) (fun w hw => hne w (List.mem_cons_of_mem _ hw)) h3
        refine ⟨fun h => ?_, fun h => .cons h1 h2 (ih.2 ⟨by omega, h.2⟩)⟩
        cases h with
        | cons q1 q2 q3 => exact ⟨by have := (ih.1 q3).1; omega, (ih.1 q3).2⟩
theorem msgE_zero (x : Int × Int × List S5) (t : List UInt8) (l : List V) : (msgE x t l = (0, 0) ↔ ((schemaE x).1 = 0 ∧ right t = true ∧ ((t.getD 0 0).toNat : Int) - 48 = x.2.1) ∧ Rise x.2.2 0 l) ∧ ((msgE x t l).1 = 0 ↔ msgE x t l = (0, 0)) := by
  unfold msgE
  by_cases c1 : (schemaE x).1 = 0
  · rw [if_neg (not_not_intro c1)]
    by_cases c2 : right t = false
    · rw [if_pos c2]
      exact ⟨⟨fun h => (by simp at h), fun h => (by rw [h.1.2.1] at c2; cases c2)⟩, ⟨fun h => (by simp at h), fun h => (by simp at h)⟩⟩
    · rw [if_neg c2]
      have c2' : right t = true := by simpa using c2
      by_cases c3 : ((t.getD 0 0).toNat : Int) - 48 = x.2.1
      · rw [if_neg (not_not_intro c3)]
        obtain ⟨h1, h2⟩ := valE_zero x.2.2 l 0 (Int.le_refl _)
        exact ⟨⟨fun h => ⟨⟨c1, c2', c3⟩, h1.1 (by rw [h])⟩, fun h => h2 (h1.2 h.2)⟩, ⟨h2, fun h => (by rw [h])⟩⟩
      · rw [if_pos c3]
        exact ⟨⟨fun h => (by simp at h), fun h => absurd h.1.2.2 c3⟩, ⟨fun h => (by simp at h), fun h => (by simp at h)⟩⟩
  · rw [if_pos c1]
    exact ⟨⟨fun h => (by simp at h), fun h => absurd h.1.1 c1⟩, ⟨fun h => (by simp at h), fun h => (by simp at h)⟩⟩
end Go.Proofs.Ytkhmdcllookjkaa.Sp
