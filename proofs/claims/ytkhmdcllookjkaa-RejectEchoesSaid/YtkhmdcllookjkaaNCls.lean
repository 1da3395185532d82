/- What the program's and the reference's functions on classes answer. -/
import Derived.Test.YtkhmdcllookjkaaNga
namespace Go.Proofs.Ytkhmdcllookjkaa.Sp
open Go Go.RowKit
set_option linter.unusedVariables false
set_option linter.unusedSimpArgs false
def ofN (n : Int) : Int := if 48 ≤ n ∧ n ≤ 57 then 1 else if (65 ≤ n ∧ n ≤ 90) ∨ (97 ≤ n ∧ n ≤ 122) then 2 else if 32 ≤ n ∧ n ≤ 126 then 4 else 8
def setsC (c : Int) : Int := if c = 1 then 1 else if c = 2 then 2 else if c = 3 then 3 else if c = 4 then 7 else if c = 5 then 15 else if c = 6 then 15 else 0
/-- Is a byte of a class? -/
def inN (c : Int) (n : Int) : Bool :=
  if c = 1 then decide (48 ≤ n ∧ n ≤ 57) else if c = 2 then decide ((65 ≤ n ∧ n ≤ 90) ∨ (97 ≤ n ∧ n ≤ 122))
  else if c = 3 then decide (48 ≤ n ∧ n ≤ 57) || decide ((65 ≤ n ∧ n ≤ 90) ∨ (97 ≤ n ∧ n ≤ 122)) else if c = 4 then decide (32 ≤ n ∧ n ≤ 126) else decide (c = 5 ∨ c = 6)
def inC (c : Int) (x : UInt8) : Bool := inN c x.toNat
theorem known_iff (c : Int) : (setsC c != 0) = decide (1 ≤ c ∧ c ≤ 6) := by
  unfold setsC
  repeat' split
  all_goals first | (subst_vars; rfl) | (symm; simp; omega)
theorem out_class {c : Int} (h : ¬ (1 ≤ c ∧ c ≤ 6)) : c ≠ 1 ∧ c ≠ 2 ∧ c ≠ 3 ∧ c ≠ 4 ∧ c ≠ 5 ∧ c ≠ 6 := by omega
theorem in_class {c : Int} (h : 1 ≤ c ∧ c ≤ 6) : c = 1 ∨ c = 2 ∨ c = 3 ∨ c = 4 ∨ c = 5 ∨ c = 6 := by omega
theorem in_out {c : Int} (h : ¬ (1 ≤ c ∧ c ≤ 6)) (n : Int) : inN c n = false := by
  obtain ⟨h1, h2, h3, h4, h5, h6⟩ := out_class h
  simp [inN, h1, h2, h3, h4, h5, h6]
theorem sets_out {c : Int} (h : ¬ (1 ≤ c ∧ c ≤ 6)) : setsC c = 0 := by
  obtain ⟨h1, h2, h3, h4, h5, h6⟩ := out_class h
  simp [setsC, h1, h2, h3, h4, h5, h6]
theorem and256 : ∀ n : Fin 256, (decide (Go.bits .and .i64 (setsC 1) (ofN ((n.val : Nat) : Int)) = 0) = !inN 1 ((n.val : Nat) : Int)) ∧ (decide (Go.bits .and .i64 (setsC 2) (ofN ((n.val : Nat) : Int)) = 0) = !inN 2 ((n.val : Nat) : Int)) ∧ (decide (Go.bits .and .i64 (setsC 3) (ofN ((n.val : Nat) : Int)) = 0) = !inN 3 ((n.val : Nat) : Int)) ∧ (decide (Go.bits .and .i64 (setsC 4) (ofN ((n.val : Nat) : Int)) = 0) = !inN 4 ((n.val : Nat) : Int)) ∧ (decide (Go.bits .and .i64 (setsC 5) (ofN ((n.val : Nat) : Int)) = 0) = !inN 5 ((n.val : Nat) : Int)) ∧ (decide (Go.bits .and .i64 (setsC 6) (ofN ((n.val : Nat) : Int)) = 0) = !inN 6 ((n.val : Nat) : Int)) ∧ (decide (Go.bits .and .i64 0 (ofN ((n.val : Nat) : Int)) = 0) = true) := by decide +kernel
theorem and_in (c : Int) (x : UInt8) : decide (Go.bits .and .i64 (setsC c) (ofN x.toNat) = 0) = !inC c x := by
  obtain ⟨p1, p2, p3, p4, p5, p6, p7⟩ := and256 ⟨x.toNat, u8_lt x⟩
  by_cases h : 1 ≤ c ∧ c ≤ 6
  · rcases in_class h with rfl | rfl | rfl | rfl | rfl | rfl
    · exact p1
    · exact p2
    · exact p3
    · exact p4
    · exact p5
    · exact p6
  · rw [sets_out h, inC, in_out h]; exact p7
/-- The place of the first byte for which something doesn't hold; -1. -/
def firstFrom (p : UInt8 → Bool) : Nat → List UInt8 → Int
  | _, [] => -1
  | i, x :: l => if p x = true then firstFrom p (i + 1) l else (i : Int)
theorem first_all (p : UInt8 → Bool) : ∀ (l : List UInt8) (i : Nat), l.all p = true → firstFrom p i l = -1
  | [], _, _ => rfl
  | x :: l, i, h => by
    rw [List.all_cons, Bool.and_eq_true] at h
    rw [firstFrom, if_pos h.1]; exact first_all p l _ h.2
theorem first_not (p : UInt8 → Bool) : ∀ (l : List UInt8) (i : Nat), l.all p = false → (i : Int) ≤ firstFrom p i l ∧ firstFrom p i l < (i : Int) + (l.length : Int)
  | [], _, h => by cases h
  | x :: l, i, h => by
    rw [firstFrom]
    by_cases hx : p x = true
    · rw [List.all_cons, hx, Bool.true_and] at h
      rw [if_pos hx]
      have := first_not p l (i + 1) h
      rw [List.length_cons]; omega
    · rw [if_neg hx, List.length_cons]; omega
theorem first_ge (p : UInt8 → Bool) (l : List UInt8) (i : Nat) : (firstFrom p i l ≥ 0) ↔ l.all p = false := by
  cases h : l.all p with
  | true => rw [first_all p l i h]; simp
  | false => have := first_not p l i h; simp; omega
theorem first_shift (p : UInt8 → Bool) : ∀ (l : List UInt8) (i : Nat), l.all p = false → firstFrom p i l = firstFrom p 0 l + (i : Int)
  | [], _, h => by cases h
  | x :: l, i, h => by
    rw [firstFrom, firstFrom]
    by_cases hx : p x = true
    · rw [List.all_cons, hx, Bool.true_and] at h
      rw [if_pos hx, if_pos hx, first_shift p l (i + 1) h, first_shift p l (0 + 1) h]; omega
    · rw [if_neg hx, if_neg hx]; omega
theorem first_append (p : UInt8 → Bool) : ∀ (l m : List UInt8) (i : Nat), firstFrom p i (l ++ m) = if l.all p = true then firstFrom p (i + l.length) m else firstFrom p i l
  | [], m, i => by simp
  | x :: l, m, i => by
    rw [List.cons_append, firstFrom, firstFrom, List.all_cons]
    by_cases hx : p x = true
    · rw [if_pos hx, first_append p l m (i + 1), hx, Bool.true_and, if_pos rfl, List.length_cons, show i + 1 + l.length = i + (l.length + 1) by omega]
    · rw [if_neg hx, if_neg hx, if_neg (by simp [hx])]
end Go.Proofs.Ytkhmdcllookjkaa.Sp
