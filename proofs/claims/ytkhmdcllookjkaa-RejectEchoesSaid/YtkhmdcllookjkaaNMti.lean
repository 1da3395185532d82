/- What the program's functions on MTIs answer. -/
import Derived.Test.YtkhmdcllookjkaaNga
namespace Go.Proofs.Ytkhmdcllookjkaa.Sp
open Go Go.RowKit
set_option linter.unusedVariables false
set_option linter.unusedSimpArgs false
/-- Is it an MTI? -/
def right (l : List UInt8) : Bool := decide (l.length = 4) && l.all dig
theorem four {l : List UInt8} (h : right l = true) : ∃ a b c d, l = [a, b, c, d] ∧ dig a = true ∧ dig b = true ∧ dig c = true ∧ dig d = true := by
  simp only [right, Bool.and_eq_true, decide_eq_true_eq] at h
  obtain ⟨h4, hd⟩ := h
  match l, h4, hd with
  | [a, b, c, d], _, hd =>
    simp only [List.all_cons, List.all_nil, Bool.and_true, Bool.and_eq_true] at hd
    exact ⟨a, b, c, d, rfl, hd.1, hd.2.1, hd.2.2.1, hd.2.2.2⟩
theorem right_four {a b c d : UInt8} (ha : dig a = true) (hb : dig b = true) (hc : dig c = true) (hd : dig d = true) : right [a, b, c, d] = true := by
  simp [right, ha, hb, hc, hd]
def asks (l : List UInt8) : Bool := right l && (decide ((l[2]?.getD 0).toNat = 48) || decide ((l[2]?.getD 0).toNat = 50))
theorem asks_four {l : List UInt8} (h : asks l = true) : ∃ a b c d, l = [a, b, c, d] ∧ right l = true ∧ dig a = true ∧ dig b = true ∧ dig d = true ∧ (c.toNat = 48 ∨ c.toNat = 50) := by
  simp only [asks, Bool.and_eq_true, Bool.or_eq_true, decide_eq_true_eq] at h
  obtain ⟨a, b, c, d, rfl, ha, hb, hc, hd⟩ := four h.1
  exact ⟨a, b, c, d, rfl, h.1, ha, hb, hd, h.2⟩
theorem inc_dig (c : UInt8) (h : c.toNat = 48 ∨ c.toNat = 50) : (u8 (c.toNat + 1)).toNat = c.toNat + 1 := u8_toNat _ (by omega)
end Go.Proofs.Ytkhmdcllookjkaa.Sp
