/- Refusals, in plain words. -/
import Derived.Test.YtkhmdcllookjkaaNMsg
namespace Go.Proofs.Ytkhmdcllookjkaa.Sp
open Go Go.RowKit
set_option linter.unusedVariables false
set_option linter.unusedSimpArgs false
abbrev RC := List (ByteArray × ByteArray) × List (Int × Int × Int × ByteArray × List (ByteArray × ByteArray))
abbrev RJ := (Int × Int × List S5) × RC × List Int × List V
/-- The code for a reason. -/
def codeV (n : Int) (l : List V) : ByteArray := if (getV n l).2 = true then (getV n l).1 else (getV 0 l).1
def echoE (s : List S5) : List Int → Nat → List Int → Option (Int × Int × Int)
  | _, _, [] => none
  | b, i, x :: m => if (findS x s).2 = false then some (9, 2, (i : Int)) else if x = 39 then some (1, 2, (i : Int)) else if x ∈ b then some (10, 2, (i : Int)) else echoE s (b ++ [x]) (i + 1) m
def specA (p : S5) (l : List UInt8) : Int := specV p.1 p.2.1 p.2.2.1 p.2.2.2.1 p.2.2.2.2 l
def codesE (p : S5) : List V → Nat → List V → Option (Int × Int × Int)
  | _, _, [] => none
  | b, i, v :: m => if v.1 < 0 ∨ 16 < v.1 then some (1, 3, (i : Int)) else if v.1 ∈ b.map Prod.fst then some (10, 3, (i : Int)) else if specA p (bl v.2) ≠ 0 then some (specA p (bl v.2), 3, (i : Int)) else codesE p (b ++ [v]) (i + 1) m
/-- What is wrong with a way to refuse. -/
def rejE (x : RJ) : Int × Int × Int :=
  if (schemaE x.1).1 ≠ 0 then (1, 1, 0) else if (findS 39 x.1.2.2).2 = false then (9, 1, 1) else
    match echoE x.1.2.2 [] 0 x.2.2.1 with
    | some e => e
    | none => match codesE (findS 39 x.1.2.2).1 [] 0 x.2.2.2 with
      | some e => e
      | none => if (0 : Int) ∈ x.2.2.2.map Prod.fst then (0, 0, 0) else (15, 3, (x.2.2.2.length : Int))
/-- The response to a request. -/
def answer (t : List UInt8) : List UInt8 := [t.getD 0 0, t.getD 1 0, u8 ((t.getD 2 0).toNat + 1), t.getD 3 0]
/-- What is echoed of a message. -/
def echoed (l : List V) : List Int → List V → List V
  | [], o => o
  | x :: m, o => echoed l m (if (getV x l).2 = true then withV x (getV x l).1 o else o)
def rejB (x : RJ) (t : List UInt8) (l : List V) (why : Int) : (ByteArray × List V) × Bool :=
  if asks t = true then ((sb (answer t), withV 39 (codeV why x.2.2.2) (echoed l x.2.2.1 [])), true) else ((sb [], []), false)
def greatR (x : RJ) : Bool := decide (200 < x.1.2.2.length) || decide (300 < x.2.2.1.length) || decide (300 < x.2.2.2.length) || x.2.2.2.any fun v => decide (1200 < v.2.size)
theorem greatR_no {x : RJ} (h : greatR x = false) : x.1.2.2.length ≤ 200 ∧ x.2.2.1.length ≤ 300 ∧ x.2.2.2.length ≤ 300 ∧ ∀ v ∈ x.2.2.2, v.2.size ≤ 1200 := by
  unfold greatR at h
  simp only [Bool.or_eq_false_iff, decide_eq_false_iff_not, List.any_eq_false, decide_eq_true_eq] at h
  exact ⟨by omega, by omega, by omega, fun v hv => by have := h.2 v hv; omega⟩
end Go.Proofs.Ytkhmdcllookjkaa.Sp
