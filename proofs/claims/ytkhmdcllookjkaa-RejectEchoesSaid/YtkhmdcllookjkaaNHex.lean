/- Digits of sixteen, in plain words. -/
import Derived.Test.YtkhmdcllookjkaaNga
namespace Go.Proofs.Ytkhmdcllookjkaa.Sp
open Go Go.RowKit
set_option linter.unusedVariables false
set_option linter.unusedSimpArgs false
/-- Is a byte a digit of sixteen? -/
def hexOk (x : UInt8) : Bool := decide (48 ≤ x.toNat ∧ x.toNat ≤ 57) || decide (65 ≤ x.toNat ∧ x.toNat ≤ 70)
/-- What it is worth. -/
def hexV (x : UInt8) : Nat := if x.toNat ≤ 57 then x.toNat - 48 else x.toNat - 55
/-- The digit of a worth. -/
def hexD (n : Nat) : UInt8 := if n < 10 then u8 (48 + n) else u8 (55 + n)
theorem hexV_lt {x : UInt8} (h : hexOk x = true) : hexV x < 16 := by
  simp only [hexOk, Bool.or_eq_true, decide_eq_true_eq] at h
  unfold hexV; split <;> omega
theorem hexD_ok {n : Nat} (h : n < 16) : hexOk (hexD n) = true := by
  unfold hexD hexOk
  split
  · rw [u8_toNat _ (by omega)]; simp; omega
  · rw [u8_toNat _ (by omega)]; simp; omega
theorem hexV_D {n : Nat} (h : n < 16) : hexV (hexD n) = n := by
  unfold hexD hexV
  split
  · rw [u8_toNat _ (by omega)]; split <;> omega
  · rw [u8_toNat _ (by omega)]; split <;> omega
theorem hexD_V {x : UInt8} (h : hexOk x = true) : hexD (hexV x) = x := by
  simp only [hexOk, Bool.or_eq_true, decide_eq_true_eq] at h
  apply u8_ext
  unfold hexD hexV
  split
  · split
    · rw [u8_toNat _ (by omega)]; omega
    · rw [u8_toNat _ (by omega)]; omega
  · split
    · rw [u8_toNat _ (by omega)]; omega
    · rw [u8_toNat _ (by omega)]; omega
/-- Bytes by two digits each. -/
def hexPut : List UInt8 → List UInt8
  | [] => []
  | x :: l => hexD (x.toNat / 16) :: hexD (x.toNat % 16) :: hexPut l
theorem hexPut_length : ∀ l, (hexPut l).length = 2 * l.length
  | [] => rfl
  | x :: l => by rw [hexPut, List.length_cons, List.length_cons, hexPut_length l, List.length_cons]; omega
theorem hexPut_append : ∀ l m, hexPut (l ++ m) = hexPut l ++ hexPut m
  | [], _ => rfl
  | x :: l, m => by rw [List.cons_append, hexPut, hexPut, hexPut_append l m]; rfl
/-- The bytes that digits are, those behind place i; o: what was got ahead of it. -/
def hexFrom : Nat → List UInt8 → List UInt8 → List UInt8 × Int × Bool
  | _, o, [] => (o, 0, true)
  | i, _, [a] => if hexOk a = true then ([], ((i + 1 : Nat) : Int), false) else ([], (i : Int), false)
  | i, o, a :: b :: m => if hexOk a = true then (if hexOk b = true then hexFrom (i + 2) (o ++ [u8 (16 * hexV a + hexV b)]) m else ([], ((i + 1 : Nat) : Int), false)) else ([], (i : Int), false)
def hexGet (l : List UInt8) : List UInt8 × Int × Bool := hexFrom 0 [] l
theorem hexFrom_put : ∀ (l o : List UInt8) (i : Nat), hexFrom i o (hexPut l) = (o ++ l, 0, true)
  | [], o, i => by simp [hexPut, hexFrom]
  | x :: l, o, i => by
    have hx := u8_lt x
    have h1 : x.toNat / 16 < 16 := by omega
    have h2 : x.toNat % 16 < 16 := by omega
    rw [hexPut, hexFrom, if_pos (hexD_ok h1), if_pos (hexD_ok h2), hexV_D h1, hexV_D h2, hexFrom_put l]
    have e : u8 (16 * (x.toNat / 16) + x.toNat % 16) = x := by
      rw [show 16 * (x.toNat / 16) + x.toNat % 16 = x.toNat by omega, u8_of_nat]
    rw [e]; simp
theorem hexGet_put (l : List UInt8) : hexGet (hexPut l) = (l, 0, true) := by
  have := hexFrom_put l [] 0
  simpa [hexGet] using this
/-- Where digits are got they are those of what was got. -/
theorem hexFrom_ok : ∀ (l o : List UInt8) (i : Nat) (r : List UInt8) (n : Int), hexFrom i o l = (r, n, true) → n = 0 ∧ ∃ m, r = o ++ m ∧ hexPut m = l
  | [], o, i, r, n, h => by
    simp only [hexFrom, Prod.mk.injEq, and_true] at h
    exact ⟨h.2.symm, [], by simp [h.1], rfl⟩
  | [a], o, i, r, n, h => by
    simp only [hexFrom] at h
    split at h <;> simp at h
  | a :: b :: m, o, i, r, n, h => by
    rw [hexFrom] at h
    by_cases ha : hexOk a = true
    · rw [if_pos ha] at h
      by_cases hb : hexOk b = true
      · rw [if_pos hb] at h
        obtain ⟨h0, m', hr, hm⟩ := hexFrom_ok m _ _ r n h
        refine ⟨h0, u8 (16 * hexV a + hexV b) :: m', by rw [hr]; simp, ?_⟩
        have h1 := hexV_lt ha
        have h2 := hexV_lt hb
        rw [hexPut, u8_toNat _ (by omega), show (16 * hexV a + hexV b) / 16 = hexV a by omega, show (16 * hexV a + hexV b) % 16 = hexV b by omega, hexD_V ha, hexD_V hb, hm]
      · rw [if_neg hb] at h; simp at h
    · rw [if_neg ha] at h; simp at h
theorem hexGet_ok {l r : List UInt8} {n : Int} (h : hexGet l = (r, n, true)) : n = 0 ∧ hexPut r = l := by
  obtain ⟨h0, m, hr, hm⟩ := hexFrom_ok l [] 0 r n h
  rw [List.nil_append] at hr
  subst hr
  exact ⟨h0, hm⟩
theorem hexFrom_no : ∀ (l o : List UInt8) (i : Nat), (hexFrom i o l).2.2 = false → (hexFrom i o l).1 = [] ∧ (i : Int) ≤ (hexFrom i o l).2.1 ∧ (hexFrom i o l).2.1 ≤ ((i + l.length : Nat) : Int)
  | [], o, i, h => by simp [hexFrom] at h
  | [a], o, i, h => by
    rw [hexFrom]; split
    · exact ⟨rfl, by show (i : Int) ≤ ((i + 1 : Nat) : Int); omega, by show ((i + 1 : Nat) : Int) ≤ ((i + 1 : Nat) : Int); omega⟩
    · exact ⟨rfl, by show (i : Int) ≤ (i : Int); omega, by show (i : Int) ≤ ((i + 1 : Nat) : Int); omega⟩
  | a :: b :: m, o, i, h => by
    rw [hexFrom] at h ⊢
    by_cases ha : hexOk a = true
    · rw [if_pos ha] at h ⊢
      by_cases hb : hexOk b = true
      · rw [if_pos hb] at h ⊢
        have := hexFrom_no m _ _ h
        refine ⟨this.1, by omega, ?_⟩
        rw [List.length_cons, List.length_cons]; omega
      · rw [if_neg hb]
        refine ⟨rfl, by show (i : Int) ≤ ((i + 1 : Nat) : Int); omega, ?_⟩
        rw [List.length_cons, List.length_cons]; show ((i + 1 : Nat) : Int) ≤ _; omega
    · rw [if_neg ha]
      exact ⟨rfl, by show (i : Int) ≤ (i : Int); omega, by show (i : Int) ≤ _; omega⟩
theorem hexGet_no {l : List UInt8} (h : (hexGet l).2.2 = false) : (hexGet l).1 = [] ∧ 0 ≤ (hexGet l).2.1 ∧ (hexGet l).2.1 ≤ (l.length : Int) := by
  have := hexFrom_no l [] 0 h
  unfold hexGet
  exact ⟨this.1, this.2.1, by have := this.2.2; omega⟩
end Go.Proofs.Ytkhmdcllookjkaa.Sp
