import Derived.Test.YtkaihbkfobiejaaGreatDoorNga
import Derived.Test.YtkaihbkfobiejaaGreatDoorNgd
import Derived.Test.YtkaihbkfobiejaaGreatDoorNgc
/- What the program's functions on MTIs answer. -/
namespace Go.Proofs.YtkaihbkfobiejaaGreatDoor.Sp
open Go Go.RowKit
set_option linter.unusedVariables false
set_option linter.unusedSimpArgs false
/-- Is it an MTI? -/
def right (l : List UInt8) : Bool := decide (l.length = 4) && l.all dig
theorem four {l : List UInt8} (h : right l = true) : ∃ a b c d, l = [a, b, c, d] ∧ dig a = true ∧ dig b = true ∧ dig c = true ∧ dig d = true := by
  simp only [right, Bool.and_eq_true, decide_eq_true_eq] at h
  obtain ⟨h4, hd⟩ := h
  match l, h4, hd with
  | [a, b, c, d], _, hd =>
    simp only [List.all_cons, List.all_nil, Bool.and_true, Bool.and_eq_true] at hd
    exact ⟨a, b, c, d, rfl, hd.1, hd.2.1, hd.2.2.1, hd.2.2.2⟩
theorem right_four {a b c d : UInt8} (ha : dig a = true) (hb : dig b = true) (hc : dig c = true) (hd : dig d = true) : right [a, b, c, d] = true := by
  simp [right, ha, hb, hc, hd]
def asks (l : List UInt8) : Bool := right l && (decide ((l[2]?.getD 0).toNat = 48) || decide ((l[2]?.getD 0).toNat = 50))
theorem asks_four {l : List UInt8} (h : asks l = true) : ∃ a b c d, l = [a, b, c, d] ∧ right l = true ∧ dig a = true ∧ dig b = true ∧ dig d = true ∧ (c.toNat = 48 ∨ c.toNat = 50) := by
  simp only [asks, Bool.and_eq_true, Bool.or_eq_true, decide_eq_true_eq] at h
  obtain ⟨a, b, c, d, rfl, ha, hb, hc, hd⟩ := four h.1
  exact ⟨a, b, c, d, rfl, h.1, ha, hb, hd, h.2⟩
theorem inc_dig (c : UInt8) (h : c.toNat = 48 ∨ c.toNat = 50) : (u8 (c.toNat + 1)).toNat = c.toNat + 1 := u8_toNat _ (by omega)
end Go.Proofs.YtkaihbkfobiejaaGreatDoor.Sp

/- Messages, in plain words. -/
namespace Go.Proofs.YtkaihbkfobiejaaGreatDoor.Sp
open Go Go.RowKit
set_option linter.unusedVariables false
set_option linter.unusedSimpArgs false
abbrev V := Int × ByteArray
abbrev S5 := Int × Int × Int × Int × Int
def without (n : Int) (l : List V) : List V := l.filter fun v => decide (v.1 ≠ n)
def insV (n : Int) (x : ByteArray) : List V → List V
  | [] => [(n, x)]
  | v :: m => if n < v.1 then (n, x) :: v :: m else v :: insV n x m
def withV (n : Int) (x : ByteArray) (l : List V) : List V := insV n x (without n l)
/-- Where the first stands whose number is greater. -/
def upTo (n : Int) : List V → Nat
  | [] => 0
  | v :: m => if n < v.1 then 0 else upTo n m + 1
theorem upTo_le (n : Int) : ∀ l, upTo n l ≤ l.length
  | [] => Nat.le_refl _
  | v :: m => by
    rw [upTo]; have := upTo_le n m
    split
    · omega
    · rw [List.length_cons]; omega
theorem insV_cut (n : Int) (x : ByteArray) : ∀ l, insV n x l = l.take (upTo n l) ++ [(n, x)] ++ l.drop (upTo n l)
  | [] => rfl
  | v :: m => by
    rw [insV, upTo]
    split
    · rfl
    · rw [insV_cut n x m]; rfl
def getV (n : Int) : List V → ByteArray × Bool
  | [] => (sb [], false)
  | v :: m => if v.1 = n then (v.2, true) else getV n m
def findV (n : Int) : Nat → List V → Int
  | _, [] => -1
  | i, v :: m => if v.1 = n then (i : Int) else findV n (i + 1) m
theorem findV_get (n : Int) : ∀ (l : List V) (i : Nat), (findV n i l < 0 ∧ getV n l = (sb [], false)) ∨ (∃ k : Nat, findV n i l = ((i + k : Nat) : Int) ∧ ∃ h : k < l.length, getV n l = (l[k].2, true))
  | [], i => .inl ⟨by show (-1 : Int) < 0; decide, rfl⟩
  | v :: m, i => by
    rw [findV, getV]
    split
    · exact .inr ⟨0, rfl, by simp, rfl⟩
    · rcases findV_get n m (i + 1) with h | ⟨k, h1, h2, h3⟩
      · exact .inl h
      · exact .inr ⟨k + 1, by rw [h1]; omega, by rw [List.length_cons]; omega, by rw [h3]; rfl⟩
theorem getV_without (n : Int) : ∀ l, getV n (without n l) = (sb [], false)
  | [] => rfl
  | v :: m => by
    have := getV_without n m
    unfold without at *
    rw [List.filter_cons]
    by_cases h : v.1 = n
    · rw [if_neg (by simp [h])]; exact this
    · rw [if_pos (by simp [h]), getV, if_neg h]; exact this
theorem getV_ins (n : Int) (x : ByteArray) : ∀ l, (∀ v ∈ l, v.1 ≠ n) → getV n (insV n x l) = (x, true)
  | [], _ => by simp [insV, getV]
  | v :: m, h => by
    rw [insV]
    split
    · rw [getV, if_pos rfl]
    · rw [getV, if_neg (h v (List.mem_cons_self ..))]
      exact getV_ins n x m fun w hw => h w (List.mem_cons_of_mem _ hw)
theorem without_ne (n : Int) (l : List V) : ∀ v ∈ without n l, v.1 ≠ n := fun v hv => by
  unfold without at hv
  simpa using (List.mem_filter.1 hv).2
theorem getV_with (n : Int) (x : ByteArray) (l : List V) : getV n (withV n x l) = (x, true) := getV_ins n x _ (without_ne n l)
theorem without_length (n : Int) (l : List V) : (without n l).length ≤ l.length := List.length_filter_le _ _
/-- Too great for the laws. -/
def great (t : ByteArray) (l : List V) : Bool := decide (100 < t.size) || decide (200 < l.length) || l.any fun v => decide (1200 < v.2.size)
theorem great_no {t : ByteArray} {l : List V} (h : great t l = false) : t.size ≤ 100 ∧ l.length ≤ 200 ∧ ∀ v ∈ l, v.2.size ≤ 1200 := by
  unfold great at h
  simp only [Bool.or_eq_false_iff, decide_eq_false_iff_not, List.any_eq_false, decide_eq_true_eq] at h
  exact ⟨by omega, by omega, fun v hv => by have := h.2 v hv; omega⟩
/-! ### Schemas -/
def findS (n : Int) : List S5 → S5 × Bool
  | [] => ((0, 0, 0, 0, 0), false)
  | v :: m => if v.1 = n then (v, true) else findS n m
def schE : Int → Nat → List S5 → Int × Int
  | _, _, [] => (0, 0)
  | p, i, v :: m => if specE v.1 v.2.1 v.2.2.1 v.2.2.2.1 v.2.2.2.2 ≠ 0 then (specE v.1 v.2.1 v.2.2.1 v.2.2.2.1 v.2.2.2.2, (i : Int)) else if v.1 ≤ p then (11, (i : Int)) else schE v.1 (i + 1) m
/-- What is wrong with a schema. -/
def schemaE (x : Int × Int × List S5) : Int × Int := if ¬ (x.1 = 1 ∨ x.1 = 2) then (1, -1) else if x.2.1 < 0 ∨ 9 < x.2.1 then (7, -1) else schE 0 0 x.2.2
def valE (s : List S5) : Int → List V → Int × Int
  | _, [] => (0, 0)
  | p, v :: m => if v.1 ≤ p then (11, v.1) else if (findS v.1 s).2 = false then (9, v.1) else if specV (findS v.1 s).1.1 (findS v.1 s).1.2.1 (findS v.1 s).1.2.2.1 (findS v.1 s).1.2.2.2.1 (findS v.1 s).1.2.2.2.2 (bl v.2) ≠ 0 then (specV (findS v.1 s).1.1 (findS v.1 s).1.2.1 (findS v.1 s).1.2.2.1 (findS v.1 s).1.2.2.2.1 (findS v.1 s).1.2.2.2.2 (bl v.2), v.1) else valE s v.1 m
/-- What is wrong with a message. -/
def msgE (x : Int × Int × List S5) (t : List UInt8) (l : List V) : Int × Int :=
  if (schemaE x).1 ≠ 0 then (1, -1) else if right t = false then (7, 0) else if ((t.getD 0 0).toNat : Int) - 48 ≠ x.2.1 then (7, 0) else valE x.2.2 0 l
end Go.Proofs.YtkaihbkfobiejaaGreatDoor.Sp

/- A right message keeps right without a value, and with one that is right alone. -/
namespace Go.Proofs.YtkaihbkfobiejaaGreatDoor.Sp
open Go Go.RowKit
set_option linter.unusedVariables false
set_option linter.unusedSimpArgs false
/-- Is a value right by a schema? -/
def rightV (s : List S5) (v : V) : Prop := (findS v.1 s).2 = true ∧ specV (findS v.1 s).1.1 (findS v.1 s).1.2.1 (findS v.1 s).1.2.2.1 (findS v.1 s).1.2.2.2.1 (findS v.1 s).1.2.2.2.2 (bl v.2) = 0
inductive Rise (s : List S5) : Int → List V → Prop
  | nil {p} : Rise s p []
  | cons {p : Int} {v : V} {m : List V} : p < v.1 → rightV s v → Rise s v.1 m → Rise s p (v :: m)
theorem valE_zero (s : List S5) : ∀ (l : List V) (p : Int), 0 ≤ p → ((valE s p l).1 = 0 ↔ Rise s p l) ∧ ((valE s p l).1 = 0 → valE s p l = (0, 0))
  | [], p, hp => ⟨⟨fun _ => .nil, fun _ => rfl⟩, fun _ => rfl⟩
  | v :: m, p, hp => by
    rw [valE]
    by_cases c1 : v.1 ≤ p
    · rw [if_pos c1]
      exact ⟨⟨fun h => (by cases h), fun h => (by cases h with | cons h1 h2 h3 => omega)⟩, fun h => (by cases h)⟩
    rw [if_neg c1]
    by_cases c2 : (findS v.1 s).2 = false
    · rw [if_pos c2]
      exact ⟨⟨fun h => (by cases h), fun h => (by cases h with | cons h1 h2 h3 => rw [h2.1] at c2; cases c2)⟩, fun h => (by cases h)⟩
    rw [if_neg c2]
    have c2' : (findS v.1 s).2 = true := by simpa using c2
    by_cases c3 : specV (findS v.1 s).1.1 (findS v.1 s).1.2.1 (findS v.1 s).1.2.2.1 (findS v.1 s).1.2.2.2.1 (findS v.1 s).1.2.2.2.2 (bl v.2) = 0
    · rw [if_neg (not_not_intro c3)]
      obtain ⟨h1, h2⟩ := valE_zero s m v.1 (by omega)
      exact ⟨⟨fun h => .cons (by omega) ⟨c2', c3⟩ (h1.1 h), fun h => (by cases h with | cons _ _ h3 => exact h1.2 h3)⟩, h2⟩
    · rw [if_pos c3]
      exact ⟨⟨fun h => absurd h c3, fun h => (by cases h with | cons h1 h2 h3 => exact absurd h2.2 c3)⟩, fun h => absurd h c3⟩
theorem Rise.lower {s : List S5} {p q : Int} {l : List V} (h : Rise s p l) (hq : q ≤ p) : Rise s q l := by
  cases h with
  | nil => exact .nil
  | cons h1 h2 h3 => exact .cons (by omega) h2 h3
theorem Rise.without {s : List S5} (n : Int) : ∀ {l : List V} {p : Int}, Rise s p l → Rise s p (without n l)
  | [], p, h => .nil
  | v :: m, p, h => by
    cases h with
    | cons h1 h2 h3 =>
      have ih := Rise.without n h3
      unfold Sp.without at *
      rw [List.filter_cons]
      split
      · exact .cons h1 h2 ih
      · exact ih.lower (by omega)
theorem Rise.ins {s : List S5} {n : Int} {x : ByteArray} : ∀ {l : List V} {p : Int}, (∀ v ∈ l, v.1 ≠ n) → Rise s p l → (Rise s p (insV n x l) ↔ p < n ∧ rightV s (n, x))
  | [], p, _, _ => ⟨fun h => (by cases h with | cons h1 h2 h3 => exact ⟨h1, h2⟩), fun h => .cons h.1 h.2 .nil⟩
  | v :: m, p, hne, h => by
    cases h with
    | cons h1 h2 h3 =>
      rw [insV]
      have hv := hne v (List.mem_cons_self ..)
      split
      · rename_i hn
        exact ⟨fun h => (by cases h with | cons q1 q2 q3 => exact ⟨q1, q2⟩), fun h => .cons h.1 h.2 (.cons hn h2 h3)⟩
      · rename_i hn
        have ih := Rise.ins (n := n) (x := x) (fun w hw => hne w (List.mem_cons_of_mem _ hw)) h3
        refine ⟨fun h => ?_, fun h => .cons h1 h2 (ih.2 ⟨by omega, h.2⟩)⟩
        cases h with
        | cons q1 q2 q3 => exact ⟨by have := (ih.1 q3).1; omega, (ih.1 q3).2⟩
theorem msgE_zero (x : Int × Int × List S5) (t : List UInt8) (l : List V) : (msgE x t l = (0, 0) ↔ ((schemaE x).1 = 0 ∧ right t = true ∧ ((t.getD 0 0).toNat : Int) - 48 = x.2.1) ∧ Rise x.2.2 0 l) ∧ ((msgE x t l).1 = 0 ↔ msgE x t l = (0, 0)) := by
  unfold msgE
  by_cases c1 : (schemaE x).1 = 0
  · rw [if_neg (not_not_intro c1)]
    by_cases c2 : right t = false
    · rw [if_pos c2]
      exact ⟨⟨fun h => (by simp at h), fun h => (by rw [h.1.2.1] at c2; cases c2)⟩, ⟨fun h => (by simp at h), fun h => (by simp at h)⟩⟩
    · rw [if_neg c2]
      have c2' : right t = true := by simpa using c2
      by_cases c3 : ((t.getD 0 0).toNat : Int) - 48 = x.2.1
      · rw [if_neg (not_not_intro c3)]
        obtain ⟨h1, h2⟩ := valE_zero x.2.2 l 0 (Int.le_refl _)
        exact ⟨⟨fun h => ⟨⟨c1, c2', c3⟩, h1.1 (by rw [h])⟩, fun h => h2 (h1.2 h.2)⟩, ⟨h2, fun h => (by rw [h])⟩⟩
      · rw [if_pos c3]
        exact ⟨⟨fun h => (by simp at h), fun h => absurd h.1.2.2 c3⟩, ⟨fun h => (by simp at h), fun h => (by simp at h)⟩⟩
  · rw [if_pos c1]
    exact ⟨⟨fun h => (by simp at h), fun h => absurd h.1.1 c1⟩, ⟨fun h => (by simp at h), fun h => (by simp at h)⟩⟩
end Go.Proofs.YtkaihbkfobiejaaGreatDoor.Sp
