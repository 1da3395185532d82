import Derived.RowKit
import Derived.Laws.Strings
import Derived.Test.YtkaihbkfobiejaaGreatDoorXga
/- Plain facts on byte strings as lists of bytes, on decimal digits and on rounds. -/
namespace Go.Proofs.YtkaihbkfobiejaaGreatDoor.Sp
open Go Go.RowKit
set_option linter.unusedVariables false
set_option linter.unusedSimpArgs false

/-- A byte out of a number. -/
def u8 (n : Nat) : UInt8 := UInt8.ofNat n
/-- A string's bytes. -/
def bl (s : ByteArray) : List UInt8 := s.data.toList
/-- The string of some bytes. -/
def sb (l : List UInt8) : ByteArray := ⟨l.toArray⟩
theorem bl_sb (l : List UInt8) : bl (sb l) = l := rfl
theorem sb_bl (s : ByteArray) : sb (bl s) = s := rfl
theorem bl_inj {a b : ByteArray} (h : bl a = bl b) : a = b := by rw [← sb_bl a, ← sb_bl b, h]
theorem toList_bl (s : ByteArray) : s.toList = bl s := ByteArray.toList_eq ..
theorem toList_sb (l : List UInt8) : (sb l).toList = l := by rw [toList_bl, bl_sb]
theorem size_bl (s : ByteArray) : s.size = (bl s).length := by simp [bl]
theorem size_sb (l : List UInt8) : (sb l).size = l.length := by simp [sb, ByteArray.size]
theorem sb_append (a b : List UInt8) : sb a ++ sb b = sb (a ++ b) := by
  apply bl_inj
  show (sb a ++ sb b).data.toList = _
  rw [ByteArray.data_append]; simp [sb, bl]
theorem bl_append (a b : ByteArray) : bl (a ++ b) = bl a ++ bl b := by
  rw [← sb_bl a, ← sb_bl b, sb_append]; rfl
theorem bl_extract (s : ByteArray) (i j : Nat) : bl (s.extract i j) = ((bl s).take j).drop i := by
  show (s.extract i j).data.toList = _
  rw [ByteArray.data_extract]; simp [bl, List.extract_eq_take_drop, List.drop_take]
theorem sb_extract (l : List UInt8) (i j : Nat) : (sb l).extract i j = sb ((l.take j).drop i) := by
  apply bl_inj; rw [bl_extract]; rfl
theorem sb_inj {a b : List UInt8} (h : sb a = sb b) : a = b := by rw [← bl_sb a, ← bl_sb b, h]
theorem bget_sb (l : List UInt8) (i : Nat) (h : i < l.length) : Xe.bget (sb l) (i : Int) = some l[i] := by
  unfold Xe.bget
  rw [if_pos (by omega), Int.toNat_natCast]
  have hs : i < (sb l).size := by rw [size_sb]; exact h
  rw [getElem?_pos (sb l) i hs]; rfl
theorem bytesOf_sb (l : List Int) : Xe.bytesOf l = sb (l.map fun n => u8 n.toNat) := rfl
theorem ssub_sb (l : List UInt8) (i j : Nat) (h : i ≤ j) (g : j ≤ l.length) : Xe.ssub (sb l) (i : Int) (j : Int) = some (sb ((l.take j).drop i)) := by
  unfold Xe.ssub
  rw [if_pos ⟨by omega, by omega, by rw [size_sb]; omega⟩, Int.toNat_natCast, Int.toNat_natCast, sb_extract]
theorem scat_sb (a b : List UInt8) (h : a.length + b.length ≤ 9223372036854775807) : Xe.scat (sb a) (sb b) = some (sb (a ++ b)) := by
  unfold Xe.scat
  rw [if_pos (by rw [size_sb, size_sb]; exact h), sb_append]
theorem lget_nat {α : Type} (l : List α) (i : Nat) (h : i < l.length) : Xe.lget l (i : Int) = some l[i] := by
  unfold Xe.lget
  rw [if_pos (by omega), Int.toNat_natCast, List.getElem?_eq_getElem h]
theorem lcat_ok {α : Type} (n : Nat) (a b : List α) (h : (a.length + b.length) * n ≤ 140737488355328) : Xe.lcat n a b = some (a ++ b) := by unfold Xe.lcat; rw [if_pos h]
theorem wrap_w (x : Int) : IntKind.wrap .i64 x = wrap64 x := by
  unfold IntKind.wrap wrap64
  show (if (true && decide (x % 18446744073709551616 ≥ 9223372036854775808)) = true then x % 18446744073709551616 - 18446744073709551616 else x % 18446744073709551616) = _
  simp only [Bool.true_and, decide_eq_true_eq]
  split <;> omega
theorem wrap_nat {n : Nat} (h : n ≤ 9223372036854775807) : IntKind.wrap .i64 (n : Int) = n := by rw [wrap_w]; unfold wrap64; omega
theorem wrap_id {x : Int} (h : -9223372036854775808 ≤ x) (h2 : x ≤ 9223372036854775807) : IntKind.wrap .i64 x = x := by rw [wrap_w]; unfold wrap64; omega
theorem wrap_succ {n : Nat} (h : n < 9223372036854775807) : IntKind.wrap .i64 ((n : Int) + 1) = ((n + 1 : Nat) : Int) := by rw [wrap_id (by omega) (by omega)]; omega
theorem strOne (n : Nat) : Xe.bytesOf [((n : Nat) : Int)] = sb [u8 n] := rfl
theorem empty_sb : (⟨#[]⟩ : ByteArray) = sb [] := rfl
theorem empty_sb' : ByteArray.empty = sb [] := rfl
theorem u8_of_nat (c : UInt8) : u8 c.toNat = c := by simp [u8]
theorem u8_toNat (n : Nat) (h : n < 256) : (u8 n).toNat = n := by simp [u8, UInt8.toNat_ofNat']; omega
theorem u8_lt (c : UInt8) : c.toNat < 256 := c.toNat_lt
theorem u8_ext {a b : UInt8} (h : a.toNat = b.toNat) : a = b := UInt8.toNat_inj.1 h
theorem wrap64_id {x : Int} (h : -9223372036854775808 ≤ x) (h2 : x ≤ 9223372036854775807) : wrap64 x = x := by unfold wrap64; omega
theorem wrap64_nat {n : Nat} (h : n ≤ 9223372036854775807) : wrap64 (n : Int) = n := wrap64_id (by omega) (by omega)
theorem wrap64_succ {n : Nat} (h : n < 9223372036854775807) : wrap64 ((n : Int) + 1) = ((n + 1 : Nat) : Int) := by rw [wrap64_id (by omega) (by omega)]; omega
theorem tdiv_nat (a b : Nat) : Int.tdiv (a : Int) (b : Int) = ((a / b : Nat) : Int) := by rw [Int.tdiv_eq_ediv_of_nonneg (by omega)]; rfl
theorem tmod_nat (a b : Nat) : Int.tmod (a : Int) (b : Int) = ((a % b : Nat) : Int) := by rw [Int.tmod_eq_emod_of_nonneg (by omega)]; rfl
/-- A string is the string of a list. -/
theorem ex_sb (s : ByteArray) : ∃ l, s = sb l := ⟨bl s, (sb_bl s).symm⟩

/-! Digits. -/
def dig (c : UInt8) : Bool := decide (48 ≤ c.toNat) && decide (c.toNat ≤ 57)
theorem dig_iff (c : UInt8) : dig c = true ↔ 48 ≤ c.toNat ∧ c.toNat ≤ 57 := by simp [dig]
theorem dig_not (c : UInt8) : dig c = false ↔ c.toNat < 48 ∨ 57 < c.toNat := by simp [dig]; omega
/-- The number that digits are. -/
def numFrom : Nat → List UInt8 → Nat
  | n, [] => n
  | n, c :: l => numFrom (10 * n + (c.toNat - 48)) l
def num (l : List UInt8) : Nat := numFrom 0 l
/-- A number's last w digits. -/
def digs : Nat → Nat → List UInt8
  | 0, _ => []
  | w + 1, n => digs w (n / 10) ++ [u8 (48 + n % 10)]
theorem digs_length : ∀ w n, (digs w n).length = w
  | 0, _ => rfl
  | w + 1, n => by simp [digs, digs_length w]
theorem dig_ofNat {d : Nat} (h : d < 10) : dig (u8 (48 + d)) = true := by
  rw [dig_iff, u8_toNat _ (by omega)]; omega
theorem digs_all : ∀ w n, (digs w n).all dig = true
  | 0, _ => rfl
  | w + 1, n => by rw [digs, List.all_append, digs_all w]; simp [dig_ofNat (Nat.mod_lt n (by decide : 0 < 10))]
theorem numFrom_append (l m : List UInt8) : ∀ n, numFrom n (l ++ m) = numFrom (numFrom n l) m := by
  induction l with
  | nil => intro n; rfl
  | cons c l ih => intro n; exact ih _
theorem num_snoc (l : List UInt8) (c : UInt8) : num (l ++ [c]) = 10 * num l + (c.toNat - 48) := numFrom_append l [c] 0
theorem pow_step (B p : Nat) : B * (p * 10) = 10 * B * p := by rw [Nat.mul_comm p 10, ← Nat.mul_assoc, Nat.mul_comm B 10]
theorem numFrom_lt : ∀ (l : List UInt8), l.all dig = true → ∀ n B, n < B → numFrom n l < B * 10 ^ l.length
  | [], _, n, B, hB => by rw [List.length_nil, Nat.pow_zero, Nat.mul_one]; exact hB
  | c :: l, h, n, B, hB => by
    rw [List.all_cons, Bool.and_eq_true] at h
    have hc := (dig_iff c).1 h.1
    have hs : 10 * n + (c.toNat - 48) < 10 * B := by omega
    have := numFrom_lt l h.2 (10 * n + (c.toNat - 48)) (10 * B) hs
    rw [List.length_cons, Nat.pow_succ, pow_step]
    exact this
theorem num_lt (l : List UInt8) (h : l.all dig = true) : num l < 10 ^ l.length := by
  have := numFrom_lt l h 0 1 (by decide)
  simpa [num] using this
theorem num_digs : ∀ w n, n < 10 ^ w → num (digs w n) = n
  | 0, n, h => by
    have : n = 0 := by simpa using h
    subst this; rfl
  | w + 1, n, h => by
    have hlt : n / 10 < 10 ^ w := by rw [Nat.pow_succ] at h; omega
    rw [digs, num_snoc, num_digs w _ hlt, u8_toNat _ (by omega)]
    omega
theorem snoc_cases (l : List UInt8) (w : Nat) (h : l.length = w + 1) : ∃ m c, l = m ++ [c] ∧ m.length = w := by
  have hne : l ≠ [] := by intro e; rw [e] at h; simp at h
  exact ⟨l.dropLast, l.getLast hne, (List.dropLast_concat_getLast hne).symm, by simp [h]⟩
theorem digs_num : ∀ w (l : List UInt8), l.length = w → l.all dig = true → digs w (num l) = l
  | 0, l, h, _ => by
    have : l = [] := List.eq_nil_of_length_eq_zero h
    subst this; rfl
  | w + 1, l, h, hd => by
    obtain ⟨m, c, rfl, hm⟩ := snoc_cases l w h
    rw [List.all_append, Bool.and_eq_true] at hd
    have hc := (dig_iff c).1 (by simpa using hd.2)
    have e1 : (10 * num m + (c.toNat - 48)) / 10 = num m := by omega
    have e2 : (10 * num m + (c.toNat - 48)) % 10 = c.toNat - 48 := by omega
    rw [digs, num_snoc, e1, e2, digs_num w m hm hd.1]
    congr 2
    apply u8_ext
    rw [u8_toNat _ (by omega)]; omega
end Go.Proofs.YtkaihbkfobiejaaGreatDoor.Sp

/- More plain facts: bytes as numbers. -/
namespace Go.Proofs.YtkaihbkfobiejaaGreatDoor.Sp
open Go Go.RowKit
set_option linter.unusedVariables false
set_option linter.unusedSimpArgs false
/-- Bytes as numbers. -/
def ints (l : List UInt8) : List Int := l.map fun b => (b.toNat : Int)
theorem str_ints (l : List UInt8) : Xe.bytesOf (ints l) = sb l := by
  rw [bytesOf_sb, ints, List.map_map]
  congr 1
  conv => rhs; rw [← List.map_id l]
  apply List.map_congr_left
  intro a _
  show u8 ((a.toNat : Int)).toNat = a
  rw [Int.toNat_natCast, u8_of_nat]
theorem ints_snoc (l : List UInt8) (n : Nat) (h : n < 256) : ints l ++ [(n : Int)] = ints (l ++ [u8 n]) := by
  simp [ints, u8_toNat n h]
theorem ints_length (l : List UInt8) : (ints l).length = l.length := by simp [ints]
theorem ints_append (l m : List UInt8) : ints l ++ ints m = ints (l ++ m) := by simp [ints]
theorem ints_drop (l : List UInt8) (n : Nat) : (ints l).drop n = ints (l.drop n) := by simp [ints, List.map_drop]
theorem ints_two (l : List UInt8) (a b : Nat) (ha : a < 256) (hb : b < 256) : ints l ++ [(a : Int), (b : Int)] = ints (l ++ [u8 a, u8 b]) := by simp [ints, u8_toNat a ha, u8_toNat b hb]
theorem drop_cons {l m : List UInt8} {a : UInt8} {i : Nat} (h : l.drop i = a :: m) : ∃ hlt : i < l.length, l[i] = a ∧ l.drop (i + 1) = m := by
  have hlt : i < l.length := by
    rcases Nat.lt_or_ge i l.length with h' | h'
    · exact h'
    · rw [List.drop_of_length_le h'] at h; cases h
  rw [List.drop_eq_getElem_cons hlt] at h
  injection h with h1 h2
  exact ⟨hlt, h1, h2⟩
theorem bget_drop {l m : List UInt8} {a : UInt8} {i : Nat} (h : l.drop i = a :: m) : Xe.bget (sb l) (i : Int) = some a := by
  obtain ⟨hlt, ha, -⟩ := drop_cons h
  rw [bget_sb l i hlt, ha]
theorem len_drop {l m : List UInt8} {a : UInt8} {i : Nat} (h : l.drop i = a :: m) : i + (m.length + 1) = l.length := by
  have := congrArg List.length h
  rw [List.length_drop, List.length_cons] at this; omega
/-- The number that digits are, if these are not too many. -/
def getNum (l : List UInt8) : Int × Bool := if l.length < 1 ∨ 18 < l.length ∨ l.all dig = false then (0, false) else ((num l : Nat), true)
/-- A number by so many digits, if it can be. -/
def putNum (n w : Int) : ByteArray × Bool := if n < 0 ∨ w < 1 ∨ 18 < w ∨ ¬ n.toNat < 10 ^ w.toNat then (sb [], false) else (sb (digs w.toNat n.toNat), true)
theorem wrap_dig (m : Nat) (h : m < 10) : wrap64 (48 + (m : Int)) % 256 = ((48 + m : Nat) : Int) := by rw [wrap64_id (by omega) (by omega)]; omega
end Go.Proofs.YtkaihbkfobiejaaGreatDoor.Sp
