/- Refusals, in plain words. -/
import Derived.Test.YtjbhknfdfnilbaaNge
namespace Go.Proofs.Ytjbhknfdfnilbaa.Sp
open Go Go.RowKit
set_option linter.unusedVariables false
set_option linter.unusedSimpArgs false
abbrev RC := List (ByteArray × ByteArray) × List (Int × Int × Int × ByteArray × List (ByteArray × ByteArray))
abbrev RJ := (Int × Int × List S5) × RC × List Int × List V
/-- The code for a reason. -/
def codeV (n : Int) (l : List V) : ByteArray := if (getV n l).2 = true then (getV n l).1 else (getV 0 l).1
def echoE (s : List S5) : List Int → Nat → List Int → Option (Int × Int × Int)
  | _, _, [] => none
  | b, i, x :: m => if (findS x s).2 = false then some (9, 2, (i : Int)) else if x = 39 then some (1, 2, (i : Int)) else if x ∈ b then some (10, 2, (i : Int)) else echoE s (b ++ [x]) (i + 1) m
def specA (p : S5) (l : List UInt8) : Int := specV p.1 p.2.1 p.2.2.1 p.2.2.2.1 p.2.2.2.2 l
def codesE (p : S5) : List V → Nat → List V → Option (Int × Int × Int)
  | _, _, [] => none
  | b, i, v :: m => if v.1 < 0 ∨ 16 < v.1 then some (1, 3, (i : Int)) else if v.1 ∈ b.map Prod.fst then some (10, 3, (i : Int)) else if specA p (bl v.2) ≠ 0 then some (specA p (bl v.2), 3, (i : Int)) else codesE p (b ++ [v]) (i + 1) m
/-- What is wrong with a way to refuse. -/
def rejE (x : RJ) : Int × Int × Int :=
  if (schemaE x.1).1 ≠ 0 then (1, 1, 0) else if (findS 39 x.1.2.2).2 = false then (9, 1, 1) else
    match echoE x.1.2.2 [] 0 x.2.2.1 with
    | some e => e
    | none => match codesE (findS 39 x.1.2.2).1 [] 0 x.2.2.2 with
      | some e => e
      | none => if (0 : Int) ∈ x.2.2.2.map Prod.fst then (0, 0, 0) else (15, 3, (x.2.2.2.length : Int))
/-- The response to a request. -/
def answer (t : List UInt8) : List UInt8 := [t.getD 0 0, t.getD 1 0, u8 ((t.getD 2 0).toNat + 1), t.getD 3 0]
/-- What is echoed of a message. -/
def echoed (l : List V) : List Int → List V → List V
  | [], o => o
  | x :: m, o => echoed l m (if (getV x l).2 = true then withV x (getV x l).1 o else o)
def rejB (x : RJ) (t : List UInt8) (l : List V) (why : Int) : (ByteArray × List V) × Bool :=
  if asks t = true then ((sb (answer t), withV 39 (codeV why x.2.2.2) (echoed l x.2.2.1 [])), true) else ((sb [], []), false)
def greatR (x : RJ) : Bool := decide (200 < x.1.2.2.length) || decide (300 < x.2.2.1.length) || decide (300 < x.2.2.2.length) || x.2.2.2.any fun v => decide (1200 < v.2.size)
theorem greatR_no {x : RJ} (h : greatR x = false) : x.1.2.2.length ≤ 200 ∧ x.2.2.1.length ≤ 300 ∧ x.2.2.2.length ≤ 300 ∧ ∀ v ∈ x.2.2.2, v.2.size ≤ 1200 := by
  unfold greatR at h
  simp only [Bool.or_eq_false_iff, decide_eq_false_iff_not, List.any_eq_false, decide_eq_true_eq] at h
  exact ⟨by omega, by omega, by omega, fun v hv => by have := h.2 v hv; omega⟩
theorem getV_mem (n : Int) : ∀ {l : List V}, (getV n l).2 = true → (n, (getV n l).1) ∈ l
  | [], h => by cases h
  | v :: m, h => by
    rw [getV] at h ⊢
    split
    · rename_i c; rw [← c]; exact List.mem_cons_self ..
    · rename_i c
      rw [if_neg c] at h
      exact List.mem_cons_of_mem _ (getV_mem n h)
theorem len_sub : ∀ {l m : List Int}, l.Nodup → (∀ x ∈ l, x ∈ m) → l.length ≤ m.length
  | [], m, _, _ => Nat.zero_le _
  | a :: l, m, hn, h => by
    have ha := h a (List.mem_cons_self ..)
    obtain ⟨h1, h2⟩ := List.nodup_cons.1 hn
    have := len_sub (l := l) (m := m.erase a) h2 fun x hx => (List.mem_erase_of_ne (fun e : x = a => h1 (by rw [← e]; exact hx))).2 (h x (List.mem_cons_of_mem _ hx))
    rw [List.length_erase_of_mem ha] at this
    have := List.length_pos_of_mem ha
    rw [List.length_cons]; omega
/-- What came out of a message: no number twice, and its own alone. -/
def Own (g o : List V) : Prop := (o.map Prod.fst).Nodup ∧ ∀ x ∈ o.map Prod.fst, x ∈ g.map Prod.fst
theorem Own.len {g o : List V} (h : Own g o) : o.length ≤ g.length := by
  have := len_sub h.1 h.2
  rwa [List.length_map, List.length_map] at this
theorem insV_perm (n : Int) (x : ByteArray) (l : List V) : (insV n x l).Perm ((n, x) :: l) := by
  rw [insV_cut, List.append_assoc]
  have h := @List.perm_middle _ (n, x) (l.take (upTo n l)) (l.drop (upTo n l))
  rw [List.take_append_drop] at h
  exact h
theorem without_fst (n : Int) (l : List V) : (without n l).map Prod.fst = (l.map Prod.fst).filter fun x => decide (x ≠ n) := by
  unfold without
  rw [List.filter_map]; rfl
theorem withV_fst (n : Int) (x : ByteArray) (l : List V) : ((withV n x l).map Prod.fst).Perm (n :: (l.map Prod.fst).filter fun x => decide (x ≠ n)) := by
  have h := (insV_perm n x (without n l)).map Prod.fst
  rw [List.map_cons, without_fst] at h
  exact h
theorem Own.withV {g o : List V} (h : Own g o) {n : Int} (x : ByteArray) (hn : n ∈ g.map Prod.fst) : Own g (withV n x o) := by
  have hp := withV_fst n x o
  refine ⟨hp.nodup_iff.2 (List.nodup_cons.2 ⟨fun e => by simp at e, h.1.filter _⟩), fun y hy => ?_⟩
  rcases List.mem_cons.1 (hp.mem_iff.1 hy) with rfl | hy
  · exact hn
  · exact h.2 y (List.mem_filter.1 hy).1
theorem Own.nil (g : List V) : Own g [] := ⟨List.nodup_nil, fun x hx => by cases hx⟩
theorem Own.echoed {g : List V} : ∀ (m : List Int) (o : List V), Own g o → Own g (echoed g m o)
  | [], o, h => h
  | x :: m, o, h => by
    rw [Sp.echoed]
    refine Own.echoed m _ ?_
    split
    · rename_i c
      exact h.withV _ (List.mem_map.2 ⟨_, getV_mem x c, rfl⟩)
    · exact h
end Go.Proofs.Ytjbhknfdfnilbaa.Sp
