/- Messages, in plain words. -/
import Derived.Test.YtkhmdcllookjkaaNBit
import Derived.Test.YtkhmdcllookjkaaNSpec
import Derived.Test.YtkhmdcllookjkaaNMti
namespace Go.Proofs.Ytkhmdcllookjkaa.Sp
open Go Go.RowKit
set_option linter.unusedVariables false
set_option linter.unusedSimpArgs false
abbrev V := Int × ByteArray
abbrev S5 := Int × Int × Int × Int × Int
def without (n : Int) (l : List V) : List V := l.filter fun v => decide (v.1 ≠ n)
def insV (n : Int) (x : ByteArray) : List V → List V
  | [] => [(n, x)]
  | v :: m => if n < v.1 then (n, x) :: v :: m else v :: insV n x m
def withV (n : Int) (x : ByteArray) (l : List V) : List V := insV n x (without n l)
/-- Where the first stands whose number is greater. -/
def upTo (n : Int) : List V → Nat
  | [] => 0
  | v :: m => if n < v.1 then 0 else upTo n m + 1
theorem upTo_le (n : Int) : ∀ l, upTo n l ≤ l.length
  | [] => Nat.le_refl _
  | v :: m => by
    rw [upTo]; have := upTo_le n m
    split
    · omega
    · rw [List.length_cons]; omega
theorem insV_cut (n : Int) (x : ByteArray) : ∀ l, insV n x l = l.take (upTo n l) ++ [(n, x)] ++ l.drop (upTo n l)
  | [] => rfl
  | v :: m => by
    rw [insV, upTo]
    split
    · rfl
    · rw [insV_cut n x m]; rfl
def getV (n : Int) : List V → ByteArray × Bool
  | [] => (sb [], false)
  | v :: m => if v.1 = n then (v.2, true) else getV n m
def findV (n : Int) : Nat → List V → Int
  | _, [] => -1
  | i, v :: m => if v.1 = n then (i : Int) else findV n (i + 1) m
theorem findV_get (n : Int) : ∀ (l : List V) (i : Nat), (findV n i l < 0 ∧ getV n l = (sb [], false)) ∨ (∃ k : Nat, findV n i l = ((i + k : Nat) : Int) ∧ ∃ h : k < l.length, getV n l = (l[k].2, true))
  | [], i => .inl ⟨by show (-1 : Int) < 0; decide, rfl⟩
  | v :: m, i => by
    rw [findV, getV]
    split
    · exact .inr ⟨0, rfl, by simp, rfl⟩
    · rcases findV_get n m (i + 1) with h | ⟨k, h1, h2, h3⟩
      · exact .inl h
      · exact .inr ⟨k + 1, by rw [h1]; omega, by rw [List.length_cons]; omega, by rw [h3]; rfl⟩
theorem getV_without (n : Int) : ∀ l, getV n (without n l) = (sb [], false)
  | [] => rfl
  | v :: m => by
    have := getV_without n m
    unfold without at *
    rw [List.filter_cons]
    by_cases h : v.1 = n
    · rw [if_neg (by simp [h])]; exact this
    · rw [if_pos (by simp [h]), getV, if_neg h]; exact this
theorem getV_ins (n : Int) (x : ByteArray) : ∀ l, (∀ v ∈ l, v.1 ≠ n) → getV n (insV n x l) = (x, true)
  | [], _ => by simp [insV, getV]
  | v :: m, h => by
    rw [insV]
    split
    · rw [getV, if_pos rfl]
    · rw [getV, if_neg (h v (List.mem_cons_self ..))]
      exact getV_ins n x m fun w hw => h w (List.mem_cons_of_mem _ hw)
theorem without_ne (n : Int) (l : List V) : ∀ v ∈ without n l, v.1 ≠ n := fun v hv => by
  unfold without at hv
  simpa using (List.mem_filter.1 hv).2
theorem getV_with (n : Int) (x : ByteArray) (l : List V) : getV n (withV n x l) = (x, true) := getV_ins n x _ (without_ne n l)
theorem without_length (n : Int) (l : List V) : (without n l).length ≤ l.length := List.length_filter_le _ _
/-- Too great for the laws. -/
def great (t : ByteArray) (l : List V) : Bool := decide (100 < t.size) || decide (200 < l.length) || l.any fun v => decide (1200 < v.2.size)
theorem great_no {t : ByteArray} {l : List V} (h : great t l = false) : t.size ≤ 100 ∧ l.length ≤ 200 ∧ ∀ v ∈ l, v.2.size ≤ 1200 := by
  unfold great at h
  simp only [Bool.or_eq_false_iff, decide_eq_false_iff_not, List.any_eq_false, decide_eq_true_eq] at h
  exact ⟨by omega, by omega, fun v hv => by have := h.2 v hv; omega⟩
/-! ### Schemas -/
def findS (n : Int) : List S5 → S5 × Bool
  | [] => ((0, 0, 0, 0, 0), false)
  | v :: m => if v.1 = n then (v, true) else findS n m
def schE : Int → Nat → List S5 → Int × Int
  | _, _, [] => (0, 0)
  | p, i, v :: m => if specE v.1 v.2.1 v.2.2.1 v.2.2.2.1 v.2.2.2.2 ≠ 0 then (specE v.1 v.2.1 v.2.2.1 v.2.2.2.1 v.2.2.2.2, (i : Int)) else if v.1 ≤ p then (11, (i : Int)) else schE v.1 (i + 1) m
/-- What is wrong with a schema. -/
def schemaE (x : Int × Int × List S5) : Int × Int := if ¬ (x.1 = 1 ∨ x.1 = 2) then (1, -1) else if x.2.1 < 0 ∨ 9 < x.2.1 then (7, -1) else schE 0 0 x.2.2
def valE (s : List S5) : Int → List V → Int × Int
  | _, [] => (0, 0)
  | p, v :: m => if v.1 ≤ p then (11, v.1) else if (findS v.1 s).2 = false then (9, v.1) else if specV (findS v.1 s).1.1 (findS v.1 s).1.2.1 (findS v.1 s).1.2.2.1 (findS v.1 s).1.2.2.2.1 (findS v.1 s).1.2.2.2.2 (bl v.2) ≠ 0 then (specV (findS v.1 s).1.1 (findS v.1 s).1.2.1 (findS v.1 s).1.2.2.1 (findS v.1 s).1.2.2.2.1 (findS v.1 s).1.2.2.2.2 (bl v.2), v.1) else valE s v.1 m
/-- What is wrong with a message. -/
def msgE (x : Int × Int × List S5) (t : List UInt8) (l : List V) : Int × Int :=
  if (schemaE x).1 ≠ 0 then (1, -1) else if right t = false then (7, 0) else if ((t.getD 0 0).toNat : Int) - 48 ≠ x.2.1 then (7, 0) else valE x.2.2 0 l
end Go.Proofs.Ytkhmdcllookjkaa.Sp
