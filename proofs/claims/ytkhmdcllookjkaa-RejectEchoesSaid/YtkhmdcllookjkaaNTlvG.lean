/- The list of tags and values in some bytes, in plain words. -/
import Derived.Test.YtkhmdcllookjkaaNTlv
namespace Go.Proofs.Ytkhmdcllookjkaa.Sp
open Go Go.RowKit
set_option linter.unusedVariables false
set_option linter.unusedSimpArgs false
def tlvG : Nat → List UInt8 → Nat → List (Int × ByteArray) → List (Int × ByteArray) × Int × Int
  | 0, _, _, o => (o, 0, 0)
  | k + 1, l, i, o =>
    if i < l.length then
      if (tagR i (l.drop i)).2.2 ≠ 0 then ([], (tagR i (l.drop i)).2.2, (i : Int))
      else if (berR (tagR i (l.drop i)).2.1.toNat (l.drop (tagR i (l.drop i)).2.1.toNat)).2.2 ≠ 0 then ([], (berR (tagR i (l.drop i)).2.1.toNat (l.drop (tagR i (l.drop i)).2.1.toNat)).2.2, (tagR i (l.drop i)).2.1)
      else if (l.length : Int) < (berR (tagR i (l.drop i)).2.1.toNat (l.drop (tagR i (l.drop i)).2.1.toNat)).2.1 + (berR (tagR i (l.drop i)).2.1.toNat (l.drop (tagR i (l.drop i)).2.1.toNat)).1 then ([], 2, (l.length : Int))
      else if (tagR i (l.drop i)).1 ∈ o.map Prod.fst then ([], 10, (i : Int))
      else tlvG k l ((berR (tagR i (l.drop i)).2.1.toNat (l.drop (tagR i (l.drop i)).2.1.toNat)).2.1 + (berR (tagR i (l.drop i)).2.1.toNat (l.drop (tagR i (l.drop i)).2.1.toNat)).1).toNat
        (o ++ [((tagR i (l.drop i)).1, sb ((l.take ((berR (tagR i (l.drop i)).2.1.toNat (l.drop (tagR i (l.drop i)).2.1.toNat)).2.1 + (berR (tagR i (l.drop i)).2.1.toNat (l.drop (tagR i (l.drop i)).2.1.toNat)).1).toNat).drop (berR (tagR i (l.drop i)).2.1.toNat (l.drop (tagR i (l.drop i)).2.1.toNat)).2.1.toNat))])
    else (o, 0, 0)
/-- One step: what the readers of a tag and of a length answer, and where the next place lies. -/
theorem tlvG_step {k : Nat} {l : List UInt8} (hl : l.length ≤ 1000000000000) {i : Nat} {o : List (Int × ByteArray)} (hi : i < l.length) :
    (∃ e : Int, ¬ e = 0 ∧ (tagR i (l.drop i)).2.2 = e ∧ tlvG (k + 1) l i o = ([], e, (i : Int))) ∨
    (∃ (t : Int) (n : Nat) (e : Int), tagR i (l.drop i) = (t, ((n : Nat) : Int), 0) ∧ n ≤ l.length ∧ ¬ e = 0 ∧ (berR n (l.drop n)).2.2 = e ∧ tlvG (k + 1) l i o = ([], e, (n : Int))) ∨
    (∃ (t : Int) (n z m : Nat), (0 ≤ t ∧ t ≤ 65535) ∧ tagR i (l.drop i) = (t, ((n : Nat) : Int), 0) ∧ n ≤ l.length ∧ i < n ∧ berR n (l.drop n) = ((z : Int), (m : Int), 0) ∧ n < m ∧ m ≤ l.length ∧ z ≤ 65535 ∧
      tlvG (k + 1) l i o = if l.length < m + z then ([], 2, (l.length : Int)) else if t ∈ o.map Prod.fst then ([], 10, (i : Int)) else tlvG k l (m + z) (o ++ [(t, sb ((l.take (m + z)).drop m))])) := by
  rw [tlvG, if_pos hi]
  obtain ⟨t, n', e1, h1⟩ : ∃ a b c, tagR i (l.drop i) = (a, b, c) := ⟨_, _, _, rfl⟩
  rw [h1]
  dsimp only
  by_cases c1 : e1 = 0
  · obtain ⟨ht, w, hw1, hw2, rfl⟩ := tagR_ok i _ (by rw [List.length_drop]; omega) h1 c1
    rw [List.length_drop] at hw2
    subst c1
    rw [if_neg (by simp), Int.toNat_natCast]
    obtain ⟨z, m', e2, h2⟩ : ∃ a b c, berR (i + w) (l.drop (i + w)) = (a, b, c) := ⟨_, _, _, rfl⟩
    rw [h2]
    dsimp only
    by_cases c2 : e2 = 0
    · obtain ⟨hz, v, hv1, hv2, rfl⟩ := berR_ok (i + w) _ (by rw [List.length_drop]; omega) h2 c2
      rw [List.length_drop] at hv2
      subst c2
      rw [if_neg (by simp)]
      obtain ⟨z, rfl⟩ := Int.eq_ofNat_of_zero_le hz.1
      refine .inr (.inr ⟨t, i + w, z, i + w + v, ht, rfl, by omega, by omega, h2, by omega, by omega, by omega, ?_⟩)
      rw [show ((i + w + v : Nat) : Int) + (z : Int) = ((i + w + v + z : Nat) : Int) by omega, Int.toNat_natCast, Int.toNat_natCast]
      by_cases c3 : l.length < i + w + v + z
      · rw [if_pos c3, if_pos (by omega)]
      · rw [if_neg c3, if_neg (by omega)]
    · rw [if_pos c2]
      exact .inr (.inl ⟨t, i + w, e2, rfl, by omega, c2, by rw [h2], rfl⟩)
  · rw [if_pos c1]
    exact .inl ⟨e1, c1, rfl, rfl⟩
def tlvErr (l : List UInt8) : Int := (tlvG (l.length + 1) l 0 []).2.1
end Go.Proofs.Ytkhmdcllookjkaa.Sp
