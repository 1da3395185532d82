/- More plain facts: bytes as numbers. -/
import Derived.Test.YtnhogpbibcgpkaaNBa
namespace Go.Proofs.Ytnhogpbibcgpkaa.Sp
open Go Go.RowKit
set_option linter.unusedVariables false
set_option linter.unusedSimpArgs false
/-- Bytes as numbers. -/
def ints (l : List UInt8) : List Int := l.map fun b => (b.toNat : Int)
theorem str_ints (l : List UInt8) : Xe.bytesOf (ints l) = sb l := by
  rw [bytesOf_sb, ints, List.map_map]
  congr 1
  conv => rhs; rw [← List.map_id l]
  apply List.map_congr_left
  intro a _
  show u8 ((a.toNat : Int)).toNat = a
  rw [Int.toNat_natCast, u8_of_nat]
theorem ints_snoc (l : List UInt8) (n : Nat) (h : n < 256) : ints l ++ [(n : Int)] = ints (l ++ [u8 n]) := by
  simp [ints, u8_toNat n h]
theorem ints_length (l : List UInt8) : (ints l).length = l.length := by simp [ints]
theorem ints_append (l m : List UInt8) : ints l ++ ints m = ints (l ++ m) := by simp [ints]
theorem ints_drop (l : List UInt8) (n : Nat) : (ints l).drop n = ints (l.drop n) := by simp [ints, List.map_drop]
theorem ints_two (l : List UInt8) (a b : Nat) (ha : a < 256) (hb : b < 256) : ints l ++ [(a : Int), (b : Int)] = ints (l ++ [u8 a, u8 b]) := by simp [ints, u8_toNat a ha, u8_toNat b hb]
theorem drop_cons {l m : List UInt8} {a : UInt8} {i : Nat} (h : l.drop i = a :: m) : ∃ hlt : i < l.length, l[i] = a ∧ l.drop (i + 1) = m := by
  have hlt : i < l.length := by
    rcases Nat.lt_or_ge i l.length with h' | h'
    · exact h'
    · rw [List.drop_of_length_le h'] at h; cases h
  rw [List.drop_eq_getElem_cons hlt] at h
  injection h with h1 h2
  exact ⟨hlt, h1, h2⟩
theorem bget_drop {l m : List UInt8} {a : UInt8} {i : Nat} (h : l.drop i = a :: m) : Xe.bget (sb l) (i : Int) = some a := by
  obtain ⟨hlt, ha, -⟩ := drop_cons h
  rw [bget_sb l i hlt, ha]
theorem len_drop {l m : List UInt8} {a : UInt8} {i : Nat} (h : l.drop i = a :: m) : i + (m.length + 1) = l.length := by
  have := congrArg List.length h
  rw [List.length_drop, List.length_cons] at this; omega
/-- The number that digits are, if these are not too many. -/
def getNum (l : List UInt8) : Int × Bool := if l.length < 1 ∨ 18 < l.length ∨ l.all dig = false then (0, false) else ((num l : Nat), true)
/-- A number by so many digits, if it can be. -/
def putNum (n w : Int) : ByteArray × Bool := if n < 0 ∨ w < 1 ∨ 18 < w ∨ ¬ n.toNat < 10 ^ w.toNat then (sb [], false) else (sb (digs w.toNat n.toNat), true)
theorem wrap_dig (m : Nat) (h : m < 10) : wrap64 (48 + (m : Int)) % 256 = ((48 + m : Nat) : Int) := by rw [wrap64_id (by omega) (by omega)]; omega
end Go.Proofs.Ytnhogpbibcgpkaa.Sp
