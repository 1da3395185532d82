import Derived.RowKit
import Derived.Laws.Strings
import Derived.Test.YtkaihbkfobiejaaGreatDoorZ0
import Derived.Laws.Bits64b
namespace Go.Proofs.YtkaihbkfobiejaaGreatDoor.Sp
open Go Go.RowKit
set_option linter.unusedVariables false
set_option linter.unusedSimpArgs false
def u8 (n : Nat) : UInt8 := UInt8.ofNat n
def bl (s : ByteArray) : List UInt8 := s.data.toList
def sb (l : List UInt8) : ByteArray := ⟨l.toArray⟩
theorem bl_sb (l : List UInt8) : bl (sb l) = l := rfl
theorem sb_bl (s : ByteArray) : sb (bl s) = s := rfl
theorem bl_inj {a b : ByteArray} (h : bl a = bl b) : a = b := by rw [← sb_bl a, ← sb_bl b, h]
theorem size_bl (s : ByteArray) : s.size = (bl s).length := by simp [bl]
theorem size_sb (l : List UInt8) : (sb l).size = l.length := by simp [sb, ByteArray.size]
theorem sb_append (a b : List UInt8) : sb a ++ sb b = sb (a ++ b) := by
 apply bl_inj
 show (sb a ++ sb b).data.toList = _
 rw [ByteArray.data_append]; simp [sb, bl]
theorem bl_extract (s : ByteArray) (i j : Nat) : bl (s.extract i j) = ((bl s).take j).drop i := by
 show (s.extract i j).data.toList = _
 rw [ByteArray.data_extract]; simp [bl, List.extract_eq_take_drop, List.drop_take]
theorem sb_extract (l : List UInt8) (i j : Nat) : (sb l).extract i j = sb ((l.take j).drop i) := by
 apply bl_inj; rw [bl_extract]; rfl
theorem sb_inj {a b : List UInt8} (h : sb a = sb b) : a = b := by rw [← bl_sb a, ← bl_sb b, h]
theorem bget_sb (l : List UInt8) (i : Nat) (h : i < l.length) : Xe.bget (sb l) (i : Int) = some l[i] := by
 unfold Xe.bget
 rw [if_pos (by omega), Int.toNat_natCast]
 have hs : i < (sb l).size := by rw [size_sb]; exact h
 rw [getElem?_pos (sb l) i hs]; rfl
theorem bytesOf_sb (l : List Int) : Xe.bytesOf l = sb (l.map fun n => u8 n.toNat) := rfl
theorem ssub_sb (l : List UInt8) (i j : Nat) (h : i ≤ j) (g : j ≤ l.length) : Xe.ssub (sb l) (i : Int) (j : Int) = some (sb ((l.take j).drop i)) := by
 unfold Xe.ssub
 rw [if_pos ⟨by omega, by omega, by rw [size_sb]; omega⟩, Int.toNat_natCast, Int.toNat_natCast, sb_extract]
theorem scat_sb (a b : List UInt8) (h : a.length + b.length ≤ 9223372036854775807) : Xe.scat (sb a) (sb b) = some (sb (a ++ b)) := by
 unfold Xe.scat
 rw [if_pos (by rw [size_sb, size_sb]; exact h), sb_append]
theorem lget_nat {α : Type} (l : List α) (i : Nat) (h : i < l.length) : Xe.lget l (i : Int) = some l[i] := by
 unfold Xe.lget
 rw [if_pos (by omega), Int.toNat_natCast, List.getElem?_eq_getElem h]
theorem lcat_ok {α : Type} (n : Nat) (a b : List α) (h : (a.length + b.length) * n ≤ 140737488355328) : Xe.lcat n a b = some (a ++ b) := by unfold Xe.lcat; rw [if_pos h]
theorem wrap_w (x : Int) : IntKind.wrap .i64 x = wrap64 x := by
 unfold IntKind.wrap wrap64
 show (if (true && decide (x % 18446744073709551616 ≥ 9223372036854775808)) = true then x % 18446744073709551616 - 18446744073709551616 else x % 18446744073709551616) = _
 simp only [Bool.true_and, decide_eq_true_eq]
 split <;> omega
theorem wrap_nat {n : Nat} (h : n ≤ 9223372036854775807) : IntKind.wrap .i64 (n : Int) = n := by rw [wrap_w]; unfold wrap64; omega
theorem wrap_id {x : Int} (h : -9223372036854775808 ≤ x) (h2 : x ≤ 9223372036854775807) : IntKind.wrap .i64 x = x := by rw [wrap_w]; unfold wrap64; omega
theorem wrap_succ {n : Nat} (h : n < 9223372036854775807) : IntKind.wrap .i64 ((n : Int) + 1) = ((n + 1 : Nat) : Int) := by rw [wrap_id (by omega) (by omega)]; omega
theorem strOne (n : Nat) : Xe.bytesOf [((n : Nat) : Int)] = sb [u8 n] := rfl
theorem u8_of_nat (c : UInt8) : u8 c.toNat = c := by simp [u8]
theorem u8_toNat (n : Nat) (h : n < 256) : (u8 n).toNat = n := by simp [u8, UInt8.toNat_ofNat']; omega
theorem u8_lt (c : UInt8) : c.toNat < 256 := c.toNat_lt
theorem u8_ext {a b : UInt8} (h : a.toNat = b.toNat) : a = b := UInt8.toNat_inj.1 h
theorem wrap64_id {x : Int} (h : -9223372036854775808 ≤ x) (h2 : x ≤ 9223372036854775807) : wrap64 x = x := by unfold wrap64; omega
theorem wrap64_nat {n : Nat} (h : n ≤ 9223372036854775807) : wrap64 (n : Int) = n := wrap64_id (by omega) (by omega)
theorem wrap64_succ {n : Nat} (h : n < 9223372036854775807) : wrap64 ((n : Int) + 1) = ((n + 1 : Nat) : Int) := by rw [wrap64_id (by omega) (by omega)]; omega
theorem tdiv_nat (a b : Nat) : Int.tdiv (a : Int) (b : Int) = ((a / b : Nat) : Int) := by rw [Int.tdiv_eq_ediv_of_nonneg (by omega)]; rfl
theorem tmod_nat (a b : Nat) : Int.tmod (a : Int) (b : Int) = ((a % b : Nat) : Int) := by rw [Int.tmod_eq_emod_of_nonneg (by omega)]; rfl
theorem ex_sb (s : ByteArray) : ∃ l, s = sb l := ⟨bl s, (sb_bl s).symm⟩
def dig (c : UInt8) : Bool := decide (48 ≤ c.toNat) && decide (c.toNat ≤ 57)
theorem dig_iff (c : UInt8) : dig c = true ↔ 48 ≤ c.toNat ∧ c.toNat ≤ 57 := by simp [dig]
theorem dig_not (c : UInt8) : dig c = false ↔ c.toNat < 48 ∨ 57 < c.toNat := by simp [dig]; omega
def numFrom : Nat → List UInt8 → Nat
 | n, [] => n
 | n, c :: l => numFrom (10 * n + (c.toNat - 48)) l
def num (l : List UInt8) : Nat := numFrom 0 l
def digs : Nat → Nat → List UInt8
 | 0, _ => []
 | w + 1, n => digs w (n / 10) ++ [u8 (48 + n % 10)]
theorem digs_length : ∀ w n, (digs w n).length = w
 | 0, _ => rfl
 | w + 1, n => by simp [digs, digs_length w]
theorem dig_ofNat {d : Nat} (h : d < 10) : dig (u8 (48 + d)) = true := by
 rw [dig_iff, u8_toNat _ (by omega)]; omega
theorem numFrom_append (l m : List UInt8) : ∀ n, numFrom n (l ++ m) = numFrom (numFrom n l) m := by
 induction l with
 | nil => intro n; rfl
 | cons c l ih => intro n; exact ih _
theorem num_snoc (l : List UInt8) (c : UInt8) : num (l ++ [c]) = 10 * num l + (c.toNat - 48) := numFrom_append l [c] 0
theorem pow_step (B p : Nat) : B * (p * 10) = 10 * B * p := by rw [Nat.mul_comm p 10, ← Nat.mul_assoc, Nat.mul_comm B 10]
theorem numFrom_lt : ∀ (l : List UInt8), l.all dig = true → ∀ n B, n < B → numFrom n l < B * 10 ^ l.length
 | [], _, n, B, hB => by rw [List.length_nil, Nat.pow_zero, Nat.mul_one]; exact hB
 | c :: l, h, n, B, hB => by
  rw [List.all_cons, Bool.and_eq_true] at h
  have hc := (dig_iff c).1 h.1
  have hs : 10 * n + (c.toNat - 48) < 10 * B := by omega
  have := numFrom_lt l h.2 (10 * n + (c.toNat - 48)) (10 * B) hs
  rw [List.length_cons, Nat.pow_succ, pow_step]
  exact this
theorem num_lt (l : List UInt8) (h : l.all dig = true) : num l < 10 ^ l.length := by
 have := numFrom_lt l h 0 1 (by decide)
 simpa [num] using this
theorem snoc_cases (l : List UInt8) (w : Nat) (h : l.length = w + 1) : ∃ m c, l = m ++ [c] ∧ m.length = w := by
 have hne : l ≠ [] := by intro e; rw [e] at h; simp at h
 exact ⟨l.dropLast, l.getLast hne, (List.dropLast_concat_getLast hne).symm, by simp [h]⟩
theorem digs_num : ∀ w (l : List UInt8), l.length = w → l.all dig = true → digs w (num l) = l
 | 0, l, h, _ => by
  have : l = [] := List.eq_nil_of_length_eq_zero h
  subst this; rfl
 | w + 1, l, h, hd => by
  obtain ⟨m, c, rfl, hm⟩ := snoc_cases l w h
  rw [List.all_append, Bool.and_eq_true] at hd
  have hc := (dig_iff c).1 (by simpa using hd.2)
  have e1 : (10 * num m + (c.toNat - 48)) / 10 = num m := by omega
  have e2 : (10 * num m + (c.toNat - 48)) % 10 = c.toNat - 48 := by omega
  rw [digs, num_snoc, e1, e2, digs_num w m hm hd.1]
  congr 2
  apply u8_ext
  rw [u8_toNat _ (by omega)]; omega
def ints (l : List UInt8) : List Int := l.map fun b => (b.toNat : Int)
theorem str_ints (l : List UInt8) : Xe.bytesOf (ints l) = sb l := by
 rw [bytesOf_sb, ints, List.map_map]
 congr 1
 conv => rhs; rw [← List.map_id l]
 apply List.map_congr_left
 intro a _
 show u8 ((a.toNat : Int)).toNat = a
 rw [Int.toNat_natCast, u8_of_nat]
theorem ints_snoc (l : List UInt8) (n : Nat) (h : n < 256) : ints l ++ [(n : Int)] = ints (l ++ [u8 n]) := by
 simp [ints, u8_toNat n h]
theorem ints_length (l : List UInt8) : (ints l).length = l.length := by simp [ints]
theorem ints_append (l m : List UInt8) : ints l ++ ints m = ints (l ++ m) := by simp [ints]
theorem ints_drop (l : List UInt8) (n : Nat) : (ints l).drop n = ints (l.drop n) := by simp [ints, List.map_drop]
theorem ints_two (l : List UInt8) (a b : Nat) (ha : a < 256) (hb : b < 256) : ints l ++ [(a : Int), (b : Int)] = ints (l ++ [u8 a, u8 b]) := by simp [ints, u8_toNat a ha, u8_toNat b hb]
theorem drop_cons {l m : List UInt8} {a : UInt8} {i : Nat} (h : l.drop i = a :: m) : ∃ hlt : i < l.length, l[i] = a ∧ l.drop (i + 1) = m := by
 have hlt : i < l.length := by
  rcases Nat.lt_or_ge i l.length with h' | h'
  ·exact h'
  ·rw [List.drop_of_length_le h'] at h; cases h
 rw [List.drop_eq_getElem_cons hlt] at h
 injection h with h1 h2
 exact ⟨hlt, h1, h2⟩
theorem bget_drop {l m : List UInt8} {a : UInt8} {i : Nat} (h : l.drop i = a :: m) : Xe.bget (sb l) (i : Int) = some a := by
 obtain ⟨hlt, ha, -⟩ := drop_cons h
 rw [bget_sb l i hlt, ha]
theorem len_drop {l m : List UInt8} {a : UInt8} {i : Nat} (h : l.drop i = a :: m) : i + (m.length + 1) = l.length := by
 have := congrArg List.length h
 rw [List.length_drop, List.length_cons] at this; omega
def getNum (l : List UInt8) : Int × Bool := if l.length < 1 ∨ 18 < l.length ∨ l.all dig = false then (0, false) else ((num l : Nat), true)
def putNum (n w : Int) : ByteArray × Bool := if n < 0 ∨ w < 1 ∨ 18 < w ∨ ¬ n.toNat < 10 ^ w.toNat then (sb [], false) else (sb (digs w.toNat n.toNat), true)
def hexOk (x : UInt8) : Bool := decide (48 ≤ x.toNat ∧ x.toNat ≤ 57) || decide (65 ≤ x.toNat ∧ x.toNat ≤ 70)
def hexV (x : UInt8) : Nat := if x.toNat ≤ 57 then x.toNat - 48 else x.toNat - 55
def hexD (n : Nat) : UInt8 := if n < 10 then u8 (48 + n) else u8 (55 + n)
theorem hexV_lt {x : UInt8} (h : hexOk x = true) : hexV x < 16 := by
 simp only [hexOk, Bool.or_eq_true, decide_eq_true_eq] at h
 unfold hexV; split <;> omega
theorem hexD_V {x : UInt8} (h : hexOk x = true) : hexD (hexV x) = x := by
 simp only [hexOk, Bool.or_eq_true, decide_eq_true_eq] at h
 apply u8_ext
 unfold hexD hexV
 split
 ·split
  ·rw [u8_toNat _ (by omega)]; omega
  ·rw [u8_toNat _ (by omega)]; omega
 ·split
  ·rw [u8_toNat _ (by omega)]; omega
  ·rw [u8_toNat _ (by omega)]; omega
def hexPut : List UInt8 → List UInt8
 | [] => []
 | x :: l => hexD (x.toNat / 16) :: hexD (x.toNat % 16) :: hexPut l
theorem hexPut_length : ∀ l, (hexPut l).length = 2 * l.length
 | [] => rfl
 | x :: l => by rw [hexPut, List.length_cons, List.length_cons, hexPut_length l, List.length_cons]; omega
theorem hexPut_append : ∀ l m, hexPut (l ++ m) = hexPut l ++ hexPut m
 | [], _ => rfl
 | x :: l, m => by rw [List.cons_append, hexPut, hexPut, hexPut_append l m]; rfl
def hexFrom : Nat → List UInt8 → List UInt8 → List UInt8 × Int × Bool
 | _, o, [] => (o, 0, true)
 | i, _, [a] => if hexOk a = true then ([], ((i + 1 : Nat) : Int), false) else ([], (i : Int), false)
 | i, o, a :: b :: m => if hexOk a = true then (if hexOk b = true then hexFrom (i + 2) (o ++ [u8 (16 * hexV a + hexV b)]) m else ([], ((i + 1 : Nat) : Int), false)) else ([], (i : Int), false)
def hexGet (l : List UInt8) : List UInt8 × Int × Bool := hexFrom 0 [] l
theorem hexFrom_ok : ∀ (l o : List UInt8) (i : Nat) (r : List UInt8) (n : Int), hexFrom i o l = (r, n, true) → n = 0 ∧ ∃ m, r = o ++ m ∧ hexPut m = l
 | [], o, i, r, n, h => by
  simp only [hexFrom, Prod.mk.injEq, and_true] at h
  exact ⟨h.2.symm, [], by simp [h.1], rfl⟩
 | [a], o, i, r, n, h => by
  simp only [hexFrom] at h
  split at h <;> simp at h
 | a :: b :: m, o, i, r, n, h => by
  rw [hexFrom] at h
  by_cases ha : hexOk a = true
  ·rw [if_pos ha] at h
   by_cases hb : hexOk b = true
   ·rw [if_pos hb] at h
    obtain ⟨h0, m', hr, hm⟩ := hexFrom_ok m _ _ r n h
    refine ⟨h0, u8 (16 * hexV a + hexV b) :: m', by rw [hr]; simp, ?_⟩
    have h1 := hexV_lt ha
    have h2 := hexV_lt hb
    rw [hexPut, u8_toNat _ (by omega), show (16 * hexV a + hexV b) / 16 = hexV a by omega, show (16 * hexV a + hexV b) % 16 = hexV b by omega, hexD_V ha, hexD_V hb, hm]
   ·rw [if_neg hb] at h; simp at h
  ·rw [if_neg ha] at h; simp at h
theorem hexGet_ok {l r : List UInt8} {n : Int} (h : hexGet l = (r, n, true)) : n = 0 ∧ hexPut r = l := by
 obtain ⟨h0, m, hr, hm⟩ := hexFrom_ok l [] 0 r n h
 rw [List.nil_append] at hr
 subst hr
 exact ⟨h0, hm⟩
theorem hexFrom_no : ∀ (l o : List UInt8) (i : Nat), (hexFrom i o l).2.2 = false → (hexFrom i o l).1 = [] ∧ (i : Int) ≤ (hexFrom i o l).2.1 ∧ (hexFrom i o l).2.1 ≤ ((i + l.length : Nat) : Int)
 | [], o, i, h => by simp [hexFrom] at h
 | [a], o, i, h => by
  rw [hexFrom]; split
  ·exact ⟨rfl, by show (i : Int) ≤ ((i + 1 : Nat) : Int); omega, by show ((i + 1 : Nat) : Int) ≤ ((i + 1 : Nat) : Int); omega⟩
  ·exact ⟨rfl, by show (i : Int) ≤ (i : Int); omega, by show (i : Int) ≤ ((i + 1 : Nat) : Int); omega⟩
 | a :: b :: m, o, i, h => by
  rw [hexFrom] at h ⊢
  by_cases ha : hexOk a = true
  ·rw [if_pos ha] at h ⊢
   by_cases hb : hexOk b = true
   ·rw [if_pos hb] at h ⊢
    have := hexFrom_no m _ _ h
    refine ⟨this.1, by omega, ?_⟩
    rw [List.length_cons, List.length_cons]; omega
   ·rw [if_neg hb]
    refine ⟨rfl, by show (i : Int) ≤ ((i + 1 : Nat) : Int); omega, ?_⟩
    rw [List.length_cons, List.length_cons]; show ((i + 1 : Nat) : Int) ≤ _; omega
  ·rw [if_neg ha]
   exact ⟨rfl, by show (i : Int) ≤ (i : Int); omega, by show (i : Int) ≤ _; omega⟩
theorem hexGet_no {l : List UInt8} (h : (hexGet l).2.2 = false) : (hexGet l).1 = [] ∧ 0 ≤ (hexGet l).2.1 ∧ (hexGet l).2.1 ≤ (l.length : Int) := by
 have := hexFrom_no l [] 0 h
 unfold hexGet
 exact ⟨this.1, this.2.1, by have := this.2.2; omega⟩
def hexP (x : UInt8) : Int × Bool := if hexOk x = true then (((hexV x : Nat) : Int), true) else (0, false)
theorem hexP_pos {x : UInt8} (h : hexOk x = true) : hexP x = (((hexV x : Nat) : Int), true) := if_pos h
theorem hexP_neg {x : UInt8} (h : ¬ hexOk x = true) : hexP x = (0, false) := if_neg h
def ofN (n : Int) : Int := if 48 ≤ n ∧ n ≤ 57 then 1 else if (65 ≤ n ∧ n ≤ 90) ∨ (97 ≤ n ∧ n ≤ 122) then 2 else if 32 ≤ n ∧ n ≤ 126 then 4 else 8
def setsC (c : Int) : Int := if c = 1 then 1 else if c = 2 then 2 else if c = 3 then 3 else if c = 4 then 7 else if c = 5 then 15 else if c = 6 then 15 else 0
def inN (c : Int) (n : Int) : Bool :=
 if c = 1 then decide (48 ≤ n ∧ n ≤ 57) else if c = 2 then decide ((65 ≤ n ∧ n ≤ 90) ∨ (97 ≤ n ∧ n ≤ 122))
 else if c = 3 then decide (48 ≤ n ∧ n ≤ 57) || decide ((65 ≤ n ∧ n ≤ 90) ∨ (97 ≤ n ∧ n ≤ 122)) else if c = 4 then decide (32 ≤ n ∧ n ≤ 126) else decide (c = 5 ∨ c = 6)
def inC (c : Int) (x : UInt8) : Bool := inN c x.toNat
theorem known_iff (c : Int) : (setsC c != 0) = decide (1 ≤ c ∧ c ≤ 6) := by
 unfold setsC
 repeat' split
 all_goals first | (subst_vars; rfl) | (symm; simp; omega)
theorem out_class {c : Int} (h : ¬ (1 ≤ c ∧ c ≤ 6)) : c ≠ 1 ∧ c ≠ 2 ∧ c ≠ 3 ∧ c ≠ 4 ∧ c ≠ 5 ∧ c ≠ 6 := by omega
theorem in_class {c : Int} (h : 1 ≤ c ∧ c ≤ 6) : c = 1 ∨ c = 2 ∨ c = 3 ∨ c = 4 ∨ c = 5 ∨ c = 6 := by omega
theorem in_out {c : Int} (h : ¬ (1 ≤ c ∧ c ≤ 6)) (n : Int) : inN c n = false := by
 obtain ⟨h1, h2, h3, h4, h5, h6⟩ := out_class h
 simp [inN, h1, h2, h3, h4, h5, h6]
theorem sets_out {c : Int} (h : ¬ (1 ≤ c ∧ c ≤ 6)) : setsC c = 0 := by
 obtain ⟨h1, h2, h3, h4, h5, h6⟩ := out_class h
 simp [setsC, h1, h2, h3, h4, h5, h6]
theorem and256 : ∀ n : Fin 256, (decide (Go.bits .and .i64 (setsC 1) (ofN ((n.val : Nat) : Int)) = 0) = !inN 1 ((n.val : Nat) : Int)) ∧ (decide (Go.bits .and .i64 (setsC 2) (ofN ((n.val : Nat) : Int)) = 0) = !inN 2 ((n.val : Nat) : Int)) ∧ (decide (Go.bits .and .i64 (setsC 3) (ofN ((n.val : Nat) : Int)) = 0) = !inN 3 ((n.val : Nat) : Int)) ∧ (decide (Go.bits .and .i64 (setsC 4) (ofN ((n.val : Nat) : Int)) = 0) = !inN 4 ((n.val : Nat) : Int)) ∧ (decide (Go.bits .and .i64 (setsC 5) (ofN ((n.val : Nat) : Int)) = 0) = !inN 5 ((n.val : Nat) : Int)) ∧ (decide (Go.bits .and .i64 (setsC 6) (ofN ((n.val : Nat) : Int)) = 0) = !inN 6 ((n.val : Nat) : Int)) ∧ (decide (Go.bits .and .i64 0 (ofN ((n.val : Nat) : Int)) = 0) = true) := by decide +kernel
theorem and_in (c : Int) (x : UInt8) : decide (Go.bits .and .i64 (setsC c) (ofN x.toNat) = 0) = !inC c x := by
 obtain ⟨p1, p2, p3, p4, p5, p6, p7⟩ := and256 ⟨x.toNat, u8_lt x⟩
 by_cases h : 1 ≤ c ∧ c ≤ 6
 ·rcases in_class h with rfl | rfl | rfl | rfl | rfl | rfl
  ·exact p1
  ·exact p2
  ·exact p3
  ·exact p4
  ·exact p5
  ·exact p6
 ·rw [sets_out h, inC, in_out h]; exact p7
def firstFrom (p : UInt8 → Bool) : Nat → List UInt8 → Int
 | _, [] => -1
 | i, x :: l => if p x = true then firstFrom p (i + 1) l else (i : Int)
theorem first_all (p : UInt8 → Bool) : ∀ (l : List UInt8) (i : Nat), l.all p = true → firstFrom p i l = -1
 | [], _, _ => rfl
 | x :: l, i, h => by
  rw [List.all_cons, Bool.and_eq_true] at h
  rw [firstFrom, if_pos h.1]; exact first_all p l _ h.2
theorem first_not (p : UInt8 → Bool) : ∀ (l : List UInt8) (i : Nat), l.all p = false → (i : Int) ≤ firstFrom p i l ∧ firstFrom p i l < (i : Int) + (l.length : Int)
 | [], _, h => by cases h
 | x :: l, i, h => by
  rw [firstFrom]
  by_cases hx : p x = true
  ·rw [List.all_cons, hx, Bool.true_and] at h
   rw [if_pos hx]
   have := first_not p l (i + 1) h
   rw [List.length_cons]; omega
  ·rw [if_neg hx, List.length_cons]; omega
theorem first_ge (p : UInt8 → Bool) (l : List UInt8) (i : Nat) : (firstFrom p i l ≥ 0) ↔ l.all p = false := by
 cases h : l.all p with
 | true => rw [first_all p l i h]; simp
 | false => have := first_not p l i h; simp; omega
def pack : List UInt8 → List UInt8
 | a :: b :: m => u8 (16 * (a.toNat - 48) + (b.toNat - 48)) :: pack m
 | _ => []
def even0 (l : List UInt8) : List UInt8 := if l.length % 2 = 0 then l else u8 48 :: l
def bcdPut (l : List UInt8) : List UInt8 × Bool := if 999 < l.length ∨ l.all dig = false then ([], false) else (pack (even0 l), true)
theorem even0_len (l : List UInt8) : (even0 l).length % 2 = 0 ∧ (even0 l).length = 2 * ((l.length + 1) / 2) := by
 unfold even0; split
 ·omega
 ·rw [List.length_cons]; omega
theorem pack_length : ∀ (l : List UInt8), l.length % 2 = 0 → 2 * (pack l).length = l.length
 | [], _ => rfl
 | [a], h => by simp at h
 | a :: b :: m, h => by
  have := pack_length m (by rw [List.length_cons, List.length_cons] at h; omega)
  rw [pack, List.length_cons, List.length_cons, List.length_cons]; omega
theorem pack_len {l : List UInt8} : (pack (even0 l)).length = (l.length + 1) / 2 := by
 have h := even0_len l
 have := pack_length _ h.1
 omega
def bcdFrom (odd : Bool) : Nat → List UInt8 → List UInt8 → List UInt8 × Int × Int
 | _, o, [] => (if odd = true then o.drop 1 else o, 0, 0)
 | i, o, c :: m => if i = 0 ∧ odd = true ∧ c.toNat / 16 ≠ 0 then ([], 4, 0) else if 9 < c.toNat / 16 ∨ 9 < c.toNat % 16 then ([], 3, (i : Int))
  else bcdFrom odd (i + 1) (o ++ [u8 (48 + c.toNat / 16), u8 (48 + c.toNat % 16)]) m
def bcdGet (b : List UInt8) (n : Int) : List UInt8 × Int × Int :=
 if n < 0 ∨ 999 < n then ([], 1, 0) else if b.length < (n.toNat + 1) / 2 then ([], 2, (b.length : Int)) else bcdFrom (decide (n.toNat % 2 = 1)) 0 [] (b.take ((n.toNat + 1) / 2))
theorem two_dig {a b : UInt8} (ha : dig a = true) (hb : dig b = true) : 16 * (a.toNat - 48) + (b.toNat - 48) < 256 ∧ (16 * (a.toNat - 48) + (b.toNat - 48)) / 16 = a.toNat - 48 ∧ (16 * (a.toNat - 48) + (b.toNat - 48)) % 16 = b.toNat - 48 ∧ 48 + (a.toNat - 48) = a.toNat ∧ 48 + (b.toNat - 48) = b.toNat ∧ a.toNat - 48 ≤ 9 ∧ b.toNat - 48 ≤ 9 := by
 have ha := (dig_iff a).1 ha
 have hb := (dig_iff b).1 hb
 omega
theorem bcdFrom_ok (odd : Bool) : ∀ (b : List UInt8) (i : Nat) (o r : List UInt8) (p : Int), o.length % 2 = 0 → o.all dig = true → bcdFrom odd i o b = (r, 0, p) →
  p = 0 ∧ ∃ m, r = (if odd = true then (o ++ m).drop 1 else o ++ m) ∧ m.all dig = true ∧ m.length = 2 * b.length ∧ pack m = b ∧ (i = 0 → odd = true → ∀ a t, m = a :: t → a = u8 48)
 | [], i, o, r, p, ho, hod, h => by
  simp only [bcdFrom, Prod.mk.injEq, true_and] at h
  exact ⟨h.2.symm, [], by simp [← h.1], rfl, rfl, rfl, fun _ _ _ _ e => by cases e⟩
 | c :: b, i, o, r, p, ho, hod, h => by
  rw [bcdFrom] at h
  by_cases h1 : i = 0 ∧ odd = true ∧ c.toNat / 16 ≠ 0
  ·rw [if_pos h1] at h; simp at h
  ·rw [if_neg h1] at h
   by_cases h2 : 9 < c.toNat / 16 ∨ 9 < c.toNat % 16
   ·rw [if_pos h2] at h; simp at h
   ·rw [if_neg h2] at h
    have d1 : dig (u8 (48 + c.toNat / 16)) = true := dig_ofNat (by omega)
    have d2 : dig (u8 (48 + c.toNat % 16)) = true := dig_ofNat (by omega)
    obtain ⟨hp, m, hr, hmd, hml, hmp, -⟩ := bcdFrom_ok odd b (i + 1) _ r p (by simp; omega) (by simp [List.all_append, hod, d1, d2]) h
    refine ⟨hp, u8 (48 + c.toNat / 16) :: u8 (48 + c.toNat % 16) :: m, by rw [hr]; simp, by simp [d1, d2, hmd], by simp [hml]; omega, ?_, ?_⟩
    ·have hc := u8_lt c
     rw [pack, u8_toNat _ (by omega), u8_toNat _ (by omega), hmp, show 16 * (48 + c.toNat / 16 - 48) + (48 + c.toNat % 16 - 48) = c.toNat by omega, u8_of_nat]
    ·intro hi hodd a t e
     injection e with e _
     have : c.toNat / 16 = 0 := by
      rcases Nat.eq_zero_or_pos (c.toNat / 16) with h | h
      ·exact h
      ·exact absurd ⟨hi, hodd, by omega⟩ h1
     rw [← e, this]
theorem bcdGet_ok {b r : List UInt8} {n p : Int} (h : bcdGet b n = (r, 0, p)) : p = 0 ∧ 0 ≤ n ∧ n ≤ 999 ∧ (n.toNat + 1) / 2 ≤ b.length ∧ r.length = n.toNat ∧ r.all dig = true ∧ pack (even0 r) = b.take ((n.toNat + 1) / 2) := by
 unfold bcdGet at h
 by_cases h1 : n < 0 ∨ 999 < n
 ·rw [if_pos h1] at h; simp at h
 ·rw [if_neg h1] at h
  by_cases h2 : b.length < (n.toNat + 1) / 2
  ·rw [if_pos h2] at h; simp at h
  ·rw [if_neg h2] at h
   obtain ⟨hp, m, hr, hmd, hml, hmp, h48⟩ := bcdFrom_ok _ _ 0 [] r p rfl rfl h
   rw [List.nil_append] at hr
   have hml' : m.length = 2 * ((n.toNat + 1) / 2) := by rw [hml, List.length_take]; omega
   by_cases ho : n.toNat % 2 = 1
   ·rw [if_pos (by simp [ho])] at hr
    match m, hml', hmd, hmp, hr, h48 with
    | [], hml', _, _, _, _ => simp at hml'; omega
    | a :: t, hml', hmd, hmp, hr, h48 =>
     have ha := h48 rfl (by simp [ho]) a t rfl
     subst ha
     rw [List.drop_succ_cons, List.drop_zero] at hr
     subst hr
     rw [List.length_cons] at hml'
     refine ⟨hp, by omega, by omega, by omega, by omega, by simp [List.all_cons] at hmd; simpa using hmd.2, ?_⟩
     have : even0 r = u8 48 :: r := if_neg (by omega)
     rw [this]; exact hmp
   ·rw [if_neg (by simp [ho])] at hr
    subst hr
    refine ⟨hp, by omega, by omega, by omega, by omega, hmd, ?_⟩
    have : even0 r = r := if_pos (by omega)
    rw [this]; exact hmp
theorem bcdFrom_no (odd : Bool) : ∀ (b : List UInt8) (i : Nat) (o : List UInt8), (bcdFrom odd i o b).2.1 ≠ 0 → (bcdFrom odd i o b).1 = [] ∧ ((bcdFrom odd i o b).2.1 = 3 ∨ (bcdFrom odd i o b).2.1 = 4)
 | [], i, o, h => by simp [bcdFrom] at h
 | c :: b, i, o, h => by
  rw [bcdFrom] at h ⊢
  by_cases h1 : i = 0 ∧ odd = true ∧ c.toNat / 16 ≠ 0
  ·rw [if_pos h1]; simp
  ·rw [if_neg h1] at h ⊢
   by_cases h2 : 9 < c.toNat / 16 ∨ 9 < c.toNat % 16
   ·rw [if_pos h2]; simp
   ·rw [if_neg h2] at h ⊢; exact bcdFrom_no odd b _ _ h
theorem bcdGet_no {b : List UInt8} {n : Int} (h : (bcdGet b n).2.1 ≠ 0) : (bcdGet b n).1 = [] := by
 unfold bcdGet at h ⊢
 split
 ·rfl
 ·rename_i h1
  rw [if_neg h1] at h
  split
  ·rfl
  ·rename_i h2
   rw [if_neg h2] at h
   exact (bcdFrom_no _ _ _ _ h).1
def preOk (style form : Int) : Bool := decide ((style = 1 ∨ style = 2) ∧ (form = 2 ∨ form = 3))
def preSize (style form : Int) : Nat := if style = 2 then (form.toNat + 1) / 2 else form.toNat
def preMost (form : Int) : Int := if form = 2 then 99 else if form = 3 then 999 else 0
def prePut (style form n : Int) : List UInt8 × Int :=
 if preOk style form = true then (if (putNum n form).2 = true then ((if style = 2 then (bcdPut (bl (putNum n form).1)).1 else bl (putNum n form).1), 0) else ([], 5)) else ([], 1)
def preDigits (style form : Int) (s : List UInt8) : List UInt8 × Int := if style = 2 then ((bcdGet s form).1, (bcdGet s form).2.1) else (s, 0)
def preGet (style form : Int) (b : List UInt8) (at_ : Int) : Int × Int × Int :=
 if preOk style form = true ∧ 0 ≤ at_ ∧ at_ ≤ (b.length : Int) then
  (if (b.length : Int) - at_ < (preSize style form : Int) then (0, 0, 2)
   else if (preDigits style form ((b.drop at_.toNat).take (preSize style form))).2 = 0 then
    (if (getNum (preDigits style form ((b.drop at_.toNat).take (preSize style form))).1).2 = true then ((getNum (preDigits style form ((b.drop at_.toNat).take (preSize style form))).1).1, at_ + (preSize style form : Int), 0) else (0, 0, 3))
   else (0, 0, 3))
 else (0, 0, 1)
theorem putNum_pos {n w : Nat} (h1 : 1 ≤ w) (h2 : w ≤ 18) (h : n < 10 ^ w) : putNum (n : Int) (w : Int) = (sb (digs w n), true) := by
 unfold putNum
 rw [if_neg (by rintro (h' | h' | h' | h'); omega; omega; omega; exact h' h)]; rfl
theorem getNum_pos {l : List UInt8} (h1 : 1 ≤ l.length) (h2 : l.length ≤ 18) (h : l.all dig = true) : getNum l = (((num l : Nat) : Int), true) := by
 unfold getNum
 rw [if_neg (by rintro (h' | h' | h'); omega; omega; (rw [h] at h'; cases h'))]
theorem putNum_ok {n : Int} {w : Nat} (h : (putNum n (w : Int)).2 = true) : 0 ≤ n ∧ n.toNat < 10 ^ w ∧ 1 ≤ w ∧ w ≤ 18 ∧ (putNum n (w : Int)).1 = sb (digs w n.toNat) := by
 unfold putNum at h ⊢
 by_cases h1 : n < 0 ∨ (w : Int) < 1 ∨ 18 < (w : Int) ∨ ¬ n.toNat < 10 ^ (w : Int).toNat
 ·rw [if_pos h1] at h; cases h
 ·rw [if_neg h1]
  rw [Int.toNat_natCast] at *
  refine ⟨by omega, ?_, by omega, by omega, rfl⟩
  rcases Nat.lt_or_ge n.toNat (10 ^ w) with h2 | h2
  ·exact h2
  ·exact absurd (.inr (.inr (.inr (by omega)))) h1
theorem preOk_iff {style form : Int} (h : preOk style form = true) : (style = 1 ∨ style = 2) ∧ (form = 2 ∨ form = 3) := of_decide_eq_true h
theorem prePut_get {style form n next : Int} {b : List UInt8} {at_ : Int} (h : preGet style form b at_ = (n, next, 0)) :
  prePut style form n = ((b.drop at_.toNat).take (preSize style form), 0) ∧ 0 ≤ at_ ∧ next = at_ + (preSize style form : Int) ∧ next ≤ (b.length : Int) ∧ 0 ≤ n ∧ n ≤ preMost form ∧ preOk style form = true := by
 unfold preGet at h
 by_cases hk : preOk style form = true ∧ 0 ≤ at_ ∧ at_ ≤ (b.length : Int)
 ·rw [if_pos hk] at h
  obtain ⟨hk, h0, hl⟩ := hk
  by_cases h1 : (b.length : Int) - at_ < (preSize style form : Int)
  ·rw [if_pos h1] at h; simp at h
  ·rw [if_neg h1] at h
   obtain ⟨hs, hf⟩ := preOk_iff hk
   obtain ⟨w, rfl, hw⟩ : ∃ w : Nat, form = (w : Int) ∧ (w = 2 ∨ w = 3) := by
    rcases hf with rfl | rfl
    ·exact ⟨2, rfl, .inl rfl⟩
    ·exact ⟨3, rfl, .inr rfl⟩
   obtain ⟨s, hse⟩ : ∃ s, s = (b.drop at_.toNat).take (preSize style (w : Int)) := ⟨_, rfl⟩
   have hsl : s.length = preSize style (w : Int) := by rw [hse, List.length_take, List.length_drop]; omega
   rw [← hse] at h ⊢
   by_cases h2 : (preDigits style (w : Int) s).2 = 0
   ·rw [if_pos h2] at h
    by_cases h3 : (getNum (preDigits style (w : Int) s).1).2 = true
    ·rw [if_pos h3] at h
     simp only [Prod.mk.injEq, and_true] at h
     obtain ⟨hn, hnext⟩ := h
     have key : ∃ d : List UInt8, (preDigits style (w : Int) s).1 = d ∧ d.length = w ∧ d.all dig = true ∧ (if style = 2 then (bcdPut d).1 else d) = s := by
      rcases hs with rfl | rfl
      ·have e2 : (1 : Int) = 2 ↔ False := by simp
       have e3 : preDigits 1 (w : Int) s = (s, 0) := by simp [preDigits]
       rw [e3] at h3 ⊢
       refine ⟨s, rfl, hsl, ?_, by simp⟩
       unfold getNum at h3
       by_cases hc : s.length < 1 ∨ 18 < s.length ∨ s.all dig = false
       ·rw [if_pos hc] at h3; cases h3
       ·cases hd : s.all dig with
        | true => rfl
        | false => exact absurd (.inr (.inr hd)) hc
      ·have e3 : preDigits 2 (w : Int) s = ((bcdGet s (w : Int)).1, (bcdGet s (w : Int)).2.1) := by simp [preDigits]
       rw [e3] at h2 ⊢
       have h' : bcdGet s (w : Int) = ((bcdGet s (w : Int)).1, 0, (bcdGet s (w : Int)).2.2) := by rw [← h2]
       obtain ⟨-, -, -, gl, glen, gd, gp⟩ := bcdGet_ok h'
       rw [Int.toNat_natCast] at gl glen gp
       refine ⟨(bcdGet s (w : Int)).1, rfl, glen, gd, ?_⟩
       have hbp : bcdPut (bcdGet s (w : Int)).1 = (pack (even0 (bcdGet s (w : Int)).1), true) := if_neg (by rintro (h' | h'); omega; (rw [gd] at h'; cases h'))
       rw [if_pos rfl, hbp]
       show pack _ = s
       rw [gp, List.take_of_length_le]
       rw [hsl]; show (w + 1) / 2 ≤ _; omega
     obtain ⟨d, hd1, hd2, hd3, hd4⟩ := key
     rw [hd1, getNum_pos (by omega) (by omega) hd3] at hn
     have hlt := num_lt d hd3
     rw [hd2] at hlt
     subst hn
     have hp : putNum ((num d : Nat) : Int) (w : Int) = (sb d, true) := by rw [putNum_pos (by omega) (by omega) hlt, digs_num w d hd2 hd3]
     refine ⟨?_, h0, hnext.symm, by omega, by omega, ?_, hk⟩
     ·unfold prePut
      rw [if_pos hk, hp]
      simp only [if_true, bl_sb]
      rw [hd4]
     ·rcases hw with rfl | rfl
      ·show _ ≤ (99 : Int); omega
      ·show _ ≤ (999 : Int); omega
    ·rw [if_neg h3] at h; simp at h
   ·rw [if_neg h2] at h; simp at h
 ·rw [if_neg hk] at h; simp at h
def specE (no c fo mi ma : Int) : Int :=
 if no < 2 ∨ 128 < no then 1 else if ¬ (1 ≤ c ∧ c ≤ 6) then 6 else if ¬ (1 ≤ fo ∧ fo ≤ 3) then 3
 else if mi < 1 ∨ ma < mi ∨ (if fo = 2 then 99 else 999) < ma ∨ (fo = 1 ∧ mi ≠ ma) then 5 else if fo = 1 ∧ c = 6 then 13 else 0
theorem specE_zero {no c fo mi ma : Int} (h : specE no c fo mi ma = 0) : (2 ≤ no ∧ no ≤ 128) ∧ (1 ≤ c ∧ c ≤ 6) ∧ (1 ≤ fo ∧ fo ≤ 3) ∧ 1 ≤ mi ∧ mi ≤ ma ∧ ma ≤ 999 ∧ (fo = 2 → ma ≤ 99) ∧ (fo = 1 → mi = ma) ∧ (fo = 1 → c ≠ 6) := by
 unfold specE at h
 by_cases h1 : no < 2 ∨ 128 < no
 ·rw [if_pos h1] at h; cases h
 rw [if_neg h1] at h
 by_cases h2 : 1 ≤ c ∧ c ≤ 6
 ·rw [if_neg (not_not_intro h2)] at h
  by_cases h3 : 1 ≤ fo ∧ fo ≤ 3
  ·rw [if_neg (not_not_intro h3)] at h
   by_cases h4 : mi < 1 ∨ ma < mi ∨ (if fo = 2 then 99 else 999) < ma ∨ (fo = 1 ∧ mi ≠ ma)
   ·rw [if_pos h4] at h; cases h
   rw [if_neg h4] at h
   by_cases h5 : fo = 1 ∧ c = 6
   ·rw [if_pos h5] at h; cases h
   by_cases h6 : fo = 2
   ·rw [if_pos h6] at h4; omega
   ·rw [if_neg h6] at h4; omega
  ·rw [if_pos h3] at h; cases h
 ·rw [if_pos h2] at h; cases h
theorem or_join (a b : Nat) (ha : a < 256) (hb : b < 256) : Go.bits .or .i64 ((a * 256 : Nat) : Int) (b : Int) = ((256 * a + b : Nat) : Int) := by
 have h1 : (BitVec.ofInt 64 ((a * 256 : Nat) : Int)).toNat = a * 256 := by
  rw [BitVec.ofInt_natCast, BitVec.toNat_ofNat]; exact Nat.mod_eq_of_lt (by omega)
 have h2 : (BitVec.ofInt 64 (b : Int)).toNat = b := by
  rw [BitVec.ofInt_natCast, BitVec.toNat_ofNat]; exact Nat.mod_eq_of_lt (by omega)
 have h3 : a * 256 ||| b = 256 * a + b := by
  have := Nat.two_pow_add_eq_or_of_lt (i := 8) (b := b) (by omega) a
  rw [show a * 256 = 2 ^ 8 * a by omega, ← this]
 show IntKind.i64.wrap ((BitVec.ofInt 64 ((a * 256 : Nat) : Int) ||| BitVec.ofInt 64 (b : Int)).toNat : Int) = _
 rw [BitVec.toNat_or, h1, h2, h3, wrap_nat (by omega)]
theorem wr0 : wrap64 (0 * 256) = ((0 * 256 : Nat) : Int) := by simp [wrap64]
theorem wr1 : wrap64 (0 + 1) = 1 := by simp [wrap64]
theorem wr2 : wrap64 (1 + 1) = 2 := by simp [wrap64]
theorem wr129 : wrap64 (((129 : Nat) : Int) - 127) = 2 := by simp [wrap64]
theorem wr130 : wrap64 (((130 : Nat) : Int) - 127) = 3 := by simp [wrap64]
def tagKind (a : Nat) : Int := if a = 0 ∨ a / 32 % 2 = 1 then 0 else if a % 32 = 31 then 2 else 1
def tagR (i : Nat) : List UInt8 → Int × Int × Int
 | [] => (0, 0, 2)
 | a :: m => if tagKind a.toNat = 0 then (0, 0, 13) else if tagKind a.toNat = 1 then ((a.toNat : Int), ((i + 1 : Nat) : Int), 0) else
  match m with
  | [] => (0, 0, 2)
  | b :: _ => if 1 ≤ b.toNat ∧ b.toNat ≤ 127 then (((256 * a.toNat + b.toNat : Nat) : Int), ((i + 2 : Nat) : Int), 0) else (0, 0, 13)
theorem tagR_cons (i : Nat) (a : UInt8) (m : List UInt8) : tagR i (a :: m) = (if tagKind a.toNat = 0 then (0, 0, 13) else if tagKind a.toNat = 1 then ((a.toNat : Int), ((i + 1 : Nat) : Int), 0) else
  match m with
  | [] => (0, 0, 2)
  | b :: _ => if 1 ≤ b.toNat ∧ b.toNat ≤ 127 then (((256 * a.toNat + b.toNat : Nat) : Int), ((i + 2 : Nat) : Int), 0) else (0, 0, 13) : Int × Int × Int) := by cases m <;> rfl
theorem tagKind_cases (a : Nat) : tagKind a = 0 ∨ tagKind a = 1 ∨ tagKind a = 2 := by unfold tagKind; repeat' split
                                                                                      all_goals simp
theorem wrap_byte (a : UInt8) : wrap64 (a.toNat : Int) = (a.toNat : Int) := wrap64_nat (by have := u8_lt a; omega)
theorem wrap_byte256 (a : UInt8) : wrap64 ((a.toNat : Int) * 256) = ((a.toNat * 256 : Nat) : Int) := by
 have := u8_lt a
 have e : ((a.toNat : Int) * 256) = ((a.toNat * 256 : Nat) : Int) := by omega
 rw [e, wrap64_nat (by omega)]
theorem wrap_256byte (a b : UInt8) : wrap64 (wrap64 (256 * (a.toNat : Int)) + (b.toNat : Int)) = ((256 * a.toNat + b.toNat : Nat) : Int) := by
 have := u8_lt a
 have := u8_lt b
 have e : (256 * (a.toNat : Int)) = ((256 * a.toNat : Nat) : Int) := by omega
 have e2 : (((256 * a.toNat : Nat) : Int) + (b.toNat : Int)) = ((256 * a.toNat + b.toNat : Nat) : Int) := by omega
 rw [e, wrap64_nat (by omega), e2, wrap64_nat (by omega)]
theorem or_bytes (a b : UInt8) : Go.bits .or .i64 (wrap64 ((wrap64 (a.toNat : Int)) * 256)) (wrap64 (b.toNat : Int)) = ((256 * a.toNat + b.toNat : Nat) : Int) := by
 rw [wrap_byte, wrap_byte, wrap_byte256, or_join _ _ (u8_lt a) (u8_lt b)]
theorem tagR_ok (i : Nat) (m : List UInt8) (hm : m.length ≤ 140737488351232) {t n e : Int} (h : tagR i m = (t, n, e)) (he : e = 0) : (0 ≤ t ∧ t ≤ 65535) ∧ ∃ w : Nat, 1 ≤ w ∧ w ≤ m.length ∧ n = ((i + w : Nat) : Int) := by
 subst he
 cases m with
 | nil => simp [tagR] at h
 | cons a m =>
  have ha := u8_lt a
  rw [tagR_cons] at h
  split at h
  ·simp at h
  ·split at h
   ·simp only [Prod.mk.injEq] at h
    obtain ⟨rfl, rfl, -⟩ := h
    exact ⟨⟨by omega, by omega⟩, 1, by omega, by simp, rfl⟩
   ·cases m with
    | nil => simp at h
    | cons b m =>
     have hb := u8_lt b
     dsimp only at h
     split at h
     ·simp only [Prod.mk.injEq] at h
      obtain ⟨rfl, rfl, -⟩ := h
      exact ⟨⟨by omega, by omega⟩, 2, by omega, by simp, rfl⟩
     ·simp at h
def berR (i : Nat) : List UInt8 → Int × Int × Int
 | [] => (0, 0, 2)
 | a :: m => if a.toNat ≤ 127 then ((a.toNat : Int), ((i + 1 : Nat) : Int), 0) else if a.toNat = 128 ∨ 130 < a.toNat then (0, 0, 14) else if m.length < a.toNat - 128 then (0, 0, 2) else if a.toNat = 129 then (if (m.getD 0 0).toNat ≤ 127 then (0, 0, 14) else (((m.getD 0 0).toNat : Int), ((i + 2 : Nat) : Int), 0)) else (if (m.getD 0 0).toNat = 0 then (0, 0, 14) else (((256 * (m.getD 0 0).toNat + (m.getD 1 0).toNat : Nat) : Int), ((i + 3 : Nat) : Int), 0))
theorem or_zero (b : UInt8) : Go.bits .or .i64 (wrap64 (0 * 256)) (wrap64 (b.toNat : Int)) = (b.toNat : Int) := by
 have h := or_join 0 b.toNat (by decide) (u8_lt b)
 rw [wrap_byte, wr0, h, Nat.mul_zero, Nat.zero_add]
theorem or_two (a b : UInt8) : Go.bits .or .i64 (wrap64 ((a.toNat : Int) * 256)) (wrap64 (b.toNat : Int)) = ((256 * a.toNat + b.toNat : Nat) : Int) := by
 rw [wrap_byte, wrap_byte256, or_join _ _ (u8_lt a) (u8_lt b)]
theorem berR_ok (i : Nat) (m : List UInt8) (hm : m.length ≤ 140737488351232) {t n e : Int} (h : berR i m = (t, n, e)) (he : e = 0) : (0 ≤ t ∧ t ≤ 65535) ∧ ∃ w : Nat, 1 ≤ w ∧ w ≤ m.length ∧ n = ((i + w : Nat) : Int) := by
 subst he
 cases m with
 | nil => simp [berR] at h
 | cons a m =>
  have ha := u8_lt a
  rw [berR] at h
  split at h
  ·simp only [Prod.mk.injEq] at h
   obtain ⟨rfl, rfl, -⟩ := h
   exact ⟨⟨by omega, by omega⟩, 1, by omega, by simp, rfl⟩
  ·split at h
   ·simp at h
   ·split at h
    ·simp at h
    ·split at h
     ·split at h
      ·simp at h
      ·simp only [Prod.mk.injEq] at h
       obtain ⟨rfl, rfl, -⟩ := h
       have := u8_lt (m.getD 0 0)
       exact ⟨⟨by omega, by omega⟩, 2, by omega, by rw [List.length_cons]; omega, rfl⟩
     ·split at h
      ·simp at h
      ·simp only [Prod.mk.injEq] at h
       obtain ⟨rfl, rfl, -⟩ := h
       have := u8_lt (m.getD 0 0)
       have := u8_lt (m.getD 1 0)
       exact ⟨⟨by omega, by omega⟩, 3, by omega, by rw [List.length_cons]; omega, rfl⟩
def tlvG : Nat → List UInt8 → Nat → List (Int × ByteArray) → List (Int × ByteArray) × Int × Int
 | 0, _, _, o => (o, 0, 0)
 | k + 1, l, i, o =>
  if i < l.length then
   if (tagR i (l.drop i)).2.2 ≠ 0 then ([], (tagR i (l.drop i)).2.2, (i : Int))
   else if (berR (tagR i (l.drop i)).2.1.toNat (l.drop (tagR i (l.drop i)).2.1.toNat)).2.2 ≠ 0 then ([], (berR (tagR i (l.drop i)).2.1.toNat (l.drop (tagR i (l.drop i)).2.1.toNat)).2.2, (tagR i (l.drop i)).2.1)
   else if (l.length : Int) < (berR (tagR i (l.drop i)).2.1.toNat (l.drop (tagR i (l.drop i)).2.1.toNat)).2.1 + (berR (tagR i (l.drop i)).2.1.toNat (l.drop (tagR i (l.drop i)).2.1.toNat)).1 then ([], 2, (l.length : Int))
   else if (tagR i (l.drop i)).1 ∈ o.map Prod.fst then ([], 10, (i : Int))
   else tlvG k l ((berR (tagR i (l.drop i)).2.1.toNat (l.drop (tagR i (l.drop i)).2.1.toNat)).2.1 + (berR (tagR i (l.drop i)).2.1.toNat (l.drop (tagR i (l.drop i)).2.1.toNat)).1).toNat
    (o ++ [((tagR i (l.drop i)).1, sb ((l.take ((berR (tagR i (l.drop i)).2.1.toNat (l.drop (tagR i (l.drop i)).2.1.toNat)).2.1 + (berR (tagR i (l.drop i)).2.1.toNat (l.drop (tagR i (l.drop i)).2.1.toNat)).1).toNat).drop (berR (tagR i (l.drop i)).2.1.toNat (l.drop (tagR i (l.drop i)).2.1.toNat)).2.1.toNat))])
  else (o, 0, 0)
theorem tlvG_step {k : Nat} {l : List UInt8} (hl : l.length ≤ 1000000000000) {i : Nat} {o : List (Int × ByteArray)} (hi : i < l.length) :
  (∃ e : Int, ¬ e = 0 ∧ (tagR i (l.drop i)).2.2 = e ∧ tlvG (k + 1) l i o = ([], e, (i : Int))) ∨
  (∃ (t : Int) (n : Nat) (e : Int), tagR i (l.drop i) = (t, ((n : Nat) : Int), 0) ∧ n ≤ l.length ∧ ¬ e = 0 ∧ (berR n (l.drop n)).2.2 = e ∧ tlvG (k + 1) l i o = ([], e, (n : Int))) ∨
  (∃ (t : Int) (n z m : Nat), (0 ≤ t ∧ t ≤ 65535) ∧ tagR i (l.drop i) = (t, ((n : Nat) : Int), 0) ∧ n ≤ l.length ∧ i < n ∧ berR n (l.drop n) = ((z : Int), (m : Int), 0) ∧ n < m ∧ m ≤ l.length ∧ z ≤ 65535 ∧
   tlvG (k + 1) l i o = if l.length < m + z then ([], 2, (l.length : Int)) else if t ∈ o.map Prod.fst then ([], 10, (i : Int)) else tlvG k l (m + z) (o ++ [(t, sb ((l.take (m + z)).drop m))])) := by
 rw [tlvG, if_pos hi]
 obtain ⟨t, n', e1, h1⟩ : ∃ a b c, tagR i (l.drop i) = (a, b, c) := ⟨_, _, _, rfl⟩
 rw [h1]
 dsimp only
 by_cases c1 : e1 = 0
 ·obtain ⟨ht, w, hw1, hw2, rfl⟩ := tagR_ok i _ (by rw [List.length_drop]; omega) h1 c1
  rw [List.length_drop] at hw2
  subst c1
  rw [if_neg (by simp), Int.toNat_natCast]
  obtain ⟨z, m', e2, h2⟩ : ∃ a b c, berR (i + w) (l.drop (i + w)) = (a, b, c) := ⟨_, _, _, rfl⟩
  rw [h2]
  dsimp only
  by_cases c2 : e2 = 0
  ·obtain ⟨hz, v, hv1, hv2, rfl⟩ := berR_ok (i + w) _ (by rw [List.length_drop]; omega) h2 c2
   rw [List.length_drop] at hv2
   subst c2
   rw [if_neg (by simp)]
   obtain ⟨z, rfl⟩ := Int.eq_ofNat_of_zero_le hz.1
   refine .inr (.inr ⟨t, i + w, z, i + w + v, ht, rfl, by omega, by omega, h2, by omega, by omega, by omega, ?_⟩)
   rw [show ((i + w + v : Nat) : Int) + (z : Int) = ((i + w + v + z : Nat) : Int) by omega, Int.toNat_natCast, Int.toNat_natCast]
   by_cases c3 : l.length < i + w + v + z
   ·rw [if_pos c3, if_pos (by omega)]
   ·rw [if_neg c3, if_neg (by omega)]
  ·rw [if_pos c2]
   exact .inr (.inl ⟨t, i + w, e2, rfl, by omega, c2, by rw [h2], rfl⟩)
 ·rw [if_pos c1]
  exact .inl ⟨e1, c1, rfl, rfl⟩
def tlvErr (l : List UInt8) : Int := (tlvG (l.length + 1) l 0 []).2.1
def specV (no c fo mi ma : Int) (l : List UInt8) : Int :=
 if specE no c fo mi ma ≠ 0 then 1 else if (l.length : Int) < mi ∨ ma < (l.length : Int) then 5 else if l.all (inC c) = false then 6 else if c = 6 ∧ tlvErr l ≠ 0 then 13 else 0
def cellHow (st c : Int) : Int := if st = 2 ∧ c = 1 then 1 else if st = 1 ∧ (c = 5 ∨ c = 6) then 2 else 0
def cellBody (h : Int) (l : List UInt8) : List UInt8 := if h = 1 then (bcdPut l).1 else if h = 2 then hexPut l else l
def cellHead (st fo : Int) (n : Nat) : List UInt8 := if fo = 1 then [] else (prePut st fo (n : Int)).1
noncomputable def cellPut (st no c fo mi ma : Int) (l : List UInt8) : List UInt8 × Int :=
 if ¬ (st = 1 ∨ st = 2) then ([], 1) else if specV no c fo mi ma l ≠ 0 then ([], specV no c fo mi ma l) else (cellHead st fo l.length ++ cellBody (cellHow st c) l, 0)
def cellSize (h : Int) (n : Nat) : Nat := if h = 1 then (n + 1) / 2 else if h = 2 then 2 * n else n
def cellText (h : Int) (raw : List UInt8) (n : Int) : List UInt8 × Int := if h = 1 then ((bcdGet raw n).1, (bcdGet raw n).2.1) else if h = 2 then ((hexGet raw).1, if (hexGet raw).2.2 = true then 0 else 3) else (raw, 0)
noncomputable def cellTake (st no c fo mi ma : Int) (b : List UInt8) (a n : Nat) : List UInt8 × Int × Int :=
 if (b.length : Int) - (a : Int) < (cellSize (cellHow st c) n : Int) then ([], 0, 2)
 else if (cellText (cellHow st c) ((b.drop a).take (cellSize (cellHow st c) n)) (n : Int)).2 ≠ 0 then ([], 0, (cellText (cellHow st c) ((b.drop a).take (cellSize (cellHow st c) n)) (n : Int)).2)
 else if specV no c fo mi ma (cellText (cellHow st c) ((b.drop a).take (cellSize (cellHow st c) n)) (n : Int)).1 ≠ 0 then ([], 0, specV no c fo mi ma (cellText (cellHow st c) ((b.drop a).take (cellSize (cellHow st c) n)) (n : Int)).1)
 else ((cellText (cellHow st c) ((b.drop a).take (cellSize (cellHow st c) n)) (n : Int)).1, ((a + cellSize (cellHow st c) n : Nat) : Int), 0)
noncomputable def cellGet (st no c fo mi ma : Int) (b : List UInt8) (at_ : Int) : List UInt8 × Int × Int :=
 if ¬ ((st = 1 ∨ st = 2) ∧ specE no c fo mi ma = 0 ∧ 0 ≤ at_ ∧ at_ ≤ (b.length : Int)) then ([], 0, 1)
 else if fo = 1 then cellTake st no c fo mi ma b at_.toNat mi.toNat
 else if (preGet st fo b at_).2.2 ≠ 0 then ([], 0, (preGet st fo b at_).2.2)
 else if (preGet st fo b at_).1 < mi ∨ ma < (preGet st fo b at_).1 then ([], 0, 5)
 else cellTake st no c fo mi ma b (preGet st fo b at_).2.1.toNat (preGet st fo b at_).1.toNat
theorem specV_zero {no c fo mi ma : Int} {l : List UInt8} (h : specV no c fo mi ma l = 0) : specE no c fo mi ma = 0 ∧ mi ≤ (l.length : Int) ∧ (l.length : Int) ≤ ma ∧ l.all (inC c) = true := by
 unfold specV at h
 by_cases h1 : specE no c fo mi ma = 0
 ·rw [if_neg (not_not_intro h1)] at h
  by_cases h2 : (l.length : Int) < mi ∨ ma < (l.length : Int)
  ·rw [if_pos h2] at h; cases h
  ·rw [if_neg h2] at h
   cases h3 : l.all (inC c) with
   | false => rw [if_pos h3] at h; cases h
   | true => exact ⟨h1, by omega, by omega, rfl⟩
 ·rw [if_pos h1] at h; cases h
theorem specV_len {no c fo mi ma : Int} {l : List UInt8} (h : specV no c fo mi ma l = 0) : l.length ≤ 999 := by
 have h1 := specV_zero h
 have h2 := specE_zero h1.1
 omega
theorem body_length (st c : Int) (l : List UInt8) (hl : l.length ≤ 999) : (cellBody (cellHow st c) l).length ≤ 2000 := by
 unfold cellBody
 split
 ·unfold bcdPut
  split
  ·simp
  ·rw [pack_len]; omega
 ·split
  ·rw [hexPut_length]; omega
  ·omega
theorem head_length (st fo : Int) (n : Nat) (hf : 1 ≤ fo ∧ fo ≤ 3) : (cellHead st fo n).length ≤ 1000 := by
 unfold cellHead prePut
 split
 ·simp
 ·split
  ·split
   ·rename_i h
    obtain ⟨h1, h2, h3, h4, h5⟩ := putNum_ok (n := (n : Int)) (w := fo.toNat) (by rw [show ((fo.toNat : Nat) : Int) = fo by omega]; exact h)
    rw [show ((fo.toNat : Nat) : Int) = fo by omega] at h5
    rw [h5]
    dsimp only
    split
    ·unfold bcdPut
     split
     ·simp
     ·rw [pack_len, bl_sb, digs_length]; omega
    ·rw [bl_sb, digs_length]; omega
   ·simp
  ·simp
theorem body_text {h n : Int} {raw t : List UInt8} (hn : 0 ≤ n) (hr : raw.length = cellSize h n.toNat) (ht : cellText h raw n = (t, 0)) : cellBody h t = raw ∧ t.length = n.toNat := by
 unfold cellText at ht
 unfold cellBody
 unfold cellSize at hr
 by_cases h1 : h = 1
 ·simp only [h1, if_true] at ht hr ⊢
  simp only [Prod.mk.injEq] at ht
  obtain ⟨p, hp⟩ : ∃ p, bcdGet raw n = (t, 0, p) := ⟨(bcdGet raw n).2.2, by rw [← ht.1, ← ht.2]⟩
  obtain ⟨-, g1, g2, g3, g4, g5, g6⟩ := bcdGet_ok hp
  unfold bcdPut
  rw [if_neg (by intro h; rcases h with h | h; omega; rw [g5] at h; cases h), g6, ← hr, List.take_length]
  exact ⟨rfl, g4⟩
 ·simp only [h1, if_false] at ht hr ⊢
  by_cases h2 : h = 2
  ·simp only [h2, if_true] at ht hr ⊢
   simp only [Prod.mk.injEq] at ht
   obtain ⟨e1, e2⟩ := ht
   by_cases g : (hexGet raw).2.2 = true
   ·obtain ⟨g1, g2⟩ := hexGet_ok (l := raw) (r := t) (n := (hexGet raw).2.1) (by rw [← e1, ← g])
    refine ⟨g2, ?_⟩
    have := hexPut_length t
    rw [g2] at this; omega
   ·rw [if_neg g] at e2; cases e2
  ·simp only [h2, if_false] at ht hr ⊢
   simp only [Prod.mk.injEq] at ht
   rw [← ht.1]; exact ⟨rfl, hr⟩
theorem take_ok {st no c fo mi ma : Int} {b : List UInt8} {a n : Nat} {t : List UInt8} {nx : Int} (ha : a ≤ b.length) (h : cellTake st no c fo mi ma b a n = (t, nx, 0)) : cellBody (cellHow st c) t = (b.drop a).take (cellSize (cellHow st c) n) ∧ t.length = n ∧ nx = ((a + cellSize (cellHow st c) n : Nat) : Int) ∧ a + cellSize (cellHow st c) n ≤ b.length ∧ specV no c fo mi ma t = 0 := by
 unfold cellTake at h
 by_cases h0 : (b.length : Int) - (a : Int) < (cellSize (cellHow st c) n : Int)
 ·rw [if_pos h0] at h; simp at h
 ·rw [if_neg h0] at h
  obtain ⟨⟨x, e⟩, hx⟩ : ∃ r, cellText (cellHow st c) ((b.drop a).take (cellSize (cellHow st c) n)) (n : Int) = r := ⟨_, rfl⟩
  rw [hx] at h
  dsimp only at h
  by_cases h1 : e = 0
  ·subst h1
   rw [if_neg (by decide)] at h
   by_cases h2 : specV no c fo mi ma x = 0
   ·rw [if_neg (not_not_intro h2)] at h
    simp only [Prod.mk.injEq] at h
    obtain ⟨rfl, rfl, -⟩ := h
    have hr : ((b.drop a).take (cellSize (cellHow st c) n)).length = cellSize (cellHow st c) (n : Int).toNat := by rw [Int.toNat_natCast, List.length_take, List.length_drop]; omega
    obtain ⟨g1, g2⟩ := body_text (by omega) hr hx
    exact ⟨g1, by rw [g2, Int.toNat_natCast], rfl, by omega, h2⟩
   ·rw [if_pos h2] at h
    simp only [Prod.mk.injEq] at h
    exact absurd h.2.2 h2
  ·rw [if_pos h1] at h
   simp only [Prod.mk.injEq] at h
   exact absurd h.2.2 h1
theorem put_get {st no c fo mi ma : Int} {b t : List UInt8} {a : Nat} {nx : Int} (h : cellGet st no c fo mi ma b (a : Int) = (t, nx, 0)) : (st = 1 ∨ st = 2) ∧ specV no c fo mi ma t = 0 ∧ a ≤ b.length ∧ ∃ e : Nat, nx = (e : Int) ∧ a ≤ e ∧ e ≤ b.length ∧ cellPut st no c fo mi ma t = ((b.drop a).take (e - a), 0) := by
 unfold cellGet at h
 by_cases h0 : ¬ ((st = 1 ∨ st = 2) ∧ specE no c fo mi ma = 0 ∧ 0 ≤ (a : Int) ∧ (a : Int) ≤ (b.length : Int))
 ·rw [if_pos h0] at h; simp at h
 ·rw [if_neg h0] at h
  obtain ⟨hs, he, -, ha⟩ := Classical.not_not.1 h0
  have ha' : a ≤ b.length := by omega
  have hz := specE_zero he
  by_cases h1 : fo = 1
  ·rw [if_pos h1, Int.toNat_natCast] at h
   obtain ⟨g1, g2, g3, g4, g5⟩ := take_ok ha' h
   refine ⟨hs, g5, ha', _, g3, by omega, g4, ?_⟩
   unfold cellPut cellHead
   rw [if_neg (not_not_intro hs), if_neg (not_not_intro g5), if_pos h1, g1, List.nil_append, Nat.add_sub_cancel_left]
  ·rw [if_neg h1] at h
   obtain ⟨⟨n, x, e⟩, hp⟩ : ∃ r, preGet st fo b (a : Int) = r := ⟨_, rfl⟩
   rw [hp] at h
   dsimp only at h
   by_cases h2 : e = 0
   ·subst h2
    rw [if_neg (by decide)] at h
    obtain ⟨p0, p1, p2, p3, p4, p5, p6⟩ := prePut_get hp
    by_cases h3 : n < mi ∨ ma < n
    ·rw [if_pos h3] at h; simp at h
    ·rw [if_neg h3] at h
     obtain ⟨n', rfl⟩ : ∃ m : Nat, n = (m : Int) := ⟨n.toNat, by omega⟩
     rw [Int.toNat_natCast] at h p0
     have hx : x.toNat = a + preSize st fo := by omega
     rw [hx] at h
     obtain ⟨g1, g2, g3, g4, g5⟩ := take_ok (by omega) h
     refine ⟨hs, g5, ha', _, g3, by omega, g4, ?_⟩
     unfold cellPut cellHead
     rw [if_neg (not_not_intro hs), if_neg (not_not_intro g5), if_neg h1, g1, g2, p0]
     dsimp only
     rw [show a + preSize st fo + cellSize (cellHow st c) n' - a = preSize st fo + cellSize (cellHow st c) n' by omega, List.take_add, List.drop_drop]
   ·rw [if_pos h2] at h
    simp only [Prod.mk.injEq] at h
    exact absurd h.2.2 h2
def fhas (h l : Nat) (n : Int) : Bool := if n < 1 ∨ 128 < n then false else if n ≤ 64 then h.testBit (64 - n).toNat else l.testBit (128 - n).toNat
theorem or_top {x : Nat} (h : x < 9223372036854775808) : x ||| 9223372036854775808 = 9223372036854775808 + x := by
 have := Nat.two_pow_add_eq_or_of_lt (i := 63) (b := x) (by simpa using h) 1
 rw [Nat.or_comm]
 simpa using this.symm
theorem and_pow (x i : Nat) : x &&& 2 ^ i = (x.testBit i).toNat * 2 ^ i := by
 apply Nat.eq_of_testBit_eq
 intro j
 rw [Nat.testBit_and, Nat.testBit_two_pow]
 by_cases h : i = j
 ·subst h
  cases hb : x.testBit i <;> simp [hb, Nat.testBit_two_pow]
 ·cases hb : x.testBit i <;> simp [h, Nat.testBit_two_pow]
theorem and_top (x : Nat) : x &&& 9223372036854775808 = if x.testBit 63 = true then 9223372036854775808 else 0 := by
 have := and_pow x 63
 rw [show (9223372036854775808 : Nat) = 2 ^ 63 from rfl, this]
 cases x.testBit 63 <;> simp
theorem top_iff {x : Nat} (h : x < 18446744073709551616) : x.testBit 63 = decide (9223372036854775808 ≤ x) := by
 rw [Nat.testBit_eq_decide_div_mod_eq]
 congr 1
 rw [show (2 : Nat) ^ 63 = 9223372036854775808 from rfl]
 apply propext
 omega
theorem andNot_top (x : Nat) (h : x < 18446744073709551616) : Go.bits .andNot .u64 (x : Int) 9223372036854775808 = ((x % 9223372036854775808 : Nat) : Int) := by
 show IntKind.u64.wrap ((BitVec.ofInt 64 (x : Int) &&& ~~~ BitVec.ofInt 64 ((9223372036854775808 : Nat) : Int)).toNat : Int) = _
 rw [BitVec.toNat_and, BitVec.toNat_not, BitVec.ofInt_natCast, BitVec.ofInt_natCast, BitVec.toNat_ofNat, BitVec.toNat_ofNat, Nat.mod_eq_of_lt (show x < 2 ^ 64 from h)]
 have : x &&& (2 ^ 64 - 1 - 9223372036854775808 % 2 ^ 64) = x % 2 ^ 63 := Nat.and_two_pow_sub_one_eq_mod x 63
 rw [this, show (2 : Nat) ^ 63 = 9223372036854775808 from rfl, IntKind.wrap_u64]
 omega
def be8 (x : Nat) : List UInt8 := [u8 (x / 72057594037927936 % 256), u8 (x / 281474976710656 % 256), u8 (x / 1099511627776 % 256), u8 (x / 4294967296 % 256), u8 (x / 16777216 % 256), u8 (x / 65536 % 256), u8 (x / 256 % 256), u8 (x % 256)]
theorem be8_length (x : Nat) : (be8 x).length = 8 := rfl
def nat8 (l : List UInt8) : Nat := l.foldl (fun a b => 256 * a + b.toNat) 0
theorem nat8_be8 {x : Nat} (h : x < 18446744073709551616) : nat8 (be8 x) = x := by
 have e : ∀ n, (u8 (n % 256)).toNat = n % 256 := fun n => u8_toNat _ (Nat.mod_lt _ (by decide))
 simp only [nat8, be8, List.foldl_cons, List.foldl_nil, e]
 have h1 : x / 281474976710656 = 256 * (x / 72057594037927936) + x / 281474976710656 % 256 := by omega
 have h2 : x / 1099511627776 = 256 * (x / 281474976710656) + x / 1099511627776 % 256 := by omega
 have h3 : x / 4294967296 = 256 * (x / 1099511627776) + x / 4294967296 % 256 := by omega
 have h4 : x / 16777216 = 256 * (x / 4294967296) + x / 16777216 % 256 := by omega
 have h5 : x / 65536 = 256 * (x / 16777216) + x / 65536 % 256 := by omega
 have h6 : x / 256 = 256 * (x / 65536) + x / 256 % 256 := by omega
 have h7 : x = 256 * (x / 256) + x % 256 := by omega
 have h0 : 256 * 0 + x / 72057594037927936 % 256 = x / 72057594037927936 := by omega
 rw [h0, ← h1, ← h2, ← h3, ← h4, ← h5, ← h6, ← h7]
theorem eight {l : List UInt8} (h : l.length = 8) : ∃ a b c d e f g i, l = [a, b, c, d, e, f, g, i] := by
 match l, h with
 | [a, b, c, d, e, f, g, i], _ => exact ⟨a, b, c, d, e, f, g, i, rfl⟩
theorem nat8_lt {l : List UInt8} (h : l.length = 8) : nat8 l < 18446744073709551616 := by
 obtain ⟨a, b, c, d, e, f, g, i, rfl⟩ := eight h
 have := u8_lt a; have := u8_lt b; have := u8_lt c; have := u8_lt d; have := u8_lt e; have := u8_lt f; have := u8_lt g; have := u8_lt i
 simp only [nat8, List.foldl_cons, List.foldl_nil]
 omega
theorem step8 (p : Nat) (a : UInt8) : (256 * p + a.toNat) % 256 = a.toNat ∧ (256 * p + a.toNat) / 256 = p := by
 have := u8_lt a; omega
theorem be8_nat8 {l : List UInt8} (h : l.length = 8) : be8 (nat8 l) = l := by
 obtain ⟨a, b, c, d, e, f, g, i, rfl⟩ := eight h
 simp only [nat8, List.foldl_cons, List.foldl_nil, be8]
 generalize h1 : 256 * 0 + a.toNat = p1
 generalize h2 : 256 * p1 + b.toNat = p2
 generalize h3 : 256 * p2 + c.toNat = p3
 generalize h4 : 256 * p3 + d.toNat = p4
 generalize h5 : 256 * p4 + e.toNat = p5
 generalize h6 : 256 * p5 + f.toNat = p6
 generalize h7 : 256 * p6 + g.toNat = p7
 generalize h8 : 256 * p7 + i.toNat = p8
 have q8 := step8 p7 i; have q7 := step8 p6 g; have q6 := step8 p5 f; have q5 := step8 p4 e; have q4 := step8 p3 d; have q3 := step8 p2 c; have q2 := step8 p1 b; have q1 := step8 0 a
 rw [h8] at q8; rw [h7] at q7; rw [h6] at q6; rw [h5] at q5; rw [h4] at q4; rw [h3] at q3; rw [h2] at q2; rw [h1] at q1
 have d7 : p8 / 256 = p7 := q8.2
 have d6 : p8 / 65536 = p6 := by rw [show 65536 = 256 * 256 from rfl, ← Nat.div_div_eq_div_mul, d7, q7.2]
 have d5 : p8 / 16777216 = p5 := by rw [show 16777216 = 65536 * 256 from rfl, ← Nat.div_div_eq_div_mul, d6, q6.2]
 have d4 : p8 / 4294967296 = p4 := by rw [show 4294967296 = 16777216 * 256 from rfl, ← Nat.div_div_eq_div_mul, d5, q5.2]
 have d3 : p8 / 1099511627776 = p3 := by rw [show 1099511627776 = 4294967296 * 256 from rfl, ← Nat.div_div_eq_div_mul, d4, q4.2]
 have d2 : p8 / 281474976710656 = p2 := by rw [show 281474976710656 = 1099511627776 * 256 from rfl, ← Nat.div_div_eq_div_mul, d3, q3.2]
 have d1 : p8 / 72057594037927936 = p1 := by rw [show 72057594037927936 = 281474976710656 * 256 from rfl, ← Nat.div_div_eq_div_mul, d2, q2.2]
 rw [d1, d2, d3, d4, d5, d6, d7, q1.1, q2.1, q3.1, q4.1, q5.1, q6.1, q7.1, q8.1]
 simp only [u8_of_nat]
def hor (p : Nat → Bool) (i : Nat) : Nat → Nat
 | 0 => 0
 | c + 1 => 2 * hor p i c + (p (i + c)).toNat
def lst (p : Nat → Bool) (i c : Nat) : List Int := ((List.range' i c).filter p).map fun n => ((n : Nat) : Int)
theorem lst_cons (p : Nat → Bool) (i c : Nat) : lst p i (c + 1) = (if p i = true then [(i : Int)] else []) ++ lst p (i + 1) c := by
 unfold lst
 rw [List.range'_succ, List.filter_cons]
 by_cases h : p i = true <;> simp [h]
theorem mem_lst (p : Nat → Bool) (i c : Nat) (n : Nat) : ((n : Int) ∈ lst p i c) ↔ (i ≤ n ∧ n < i + c) ∧ p n = true := by
 unfold lst
 simp only [List.mem_map, List.mem_filter, List.mem_range'_1, Int.ofNat_inj]
 constructor
 ·rintro ⟨m, hm, rfl⟩; exact hm
 ·intro h; exact ⟨n, h, rfl⟩
theorem lst_length (p : Nat → Bool) (i c : Nat) : (lst p i c).length ≤ c := by
 unfold lst
 rw [List.length_map]
 exact Nat.le_trans (List.length_filter_le _ _) (by simp)
theorem lst_nil {p : Nat → Bool} {i c : Nat} : lst p i c = [] ↔ ∀ j, j < c → p (i + j) = false := by
 unfold lst
 rw [List.map_eq_nil_iff, List.filter_eq_nil_iff]
 constructor
 ·intro h j hj
  have := h (i + j) (by rw [List.mem_range'_1]; omega)
  simpa using this
 ·intro h n hn
  rw [List.mem_range'_1] at hn
  have := h (n - i) (by omega)
  rw [show i + (n - i) = n by omega] at this
  simp [this]
def fb1 (n : Int) : Nat := if 1 ≤ n ∧ n ≤ 64 then 2 ^ (64 - n).toNat else 0
def fb2 (n : Int) : Nat := if 64 < n ∧ n ≤ 128 then 2 ^ (128 - n).toNat else 0
theorem fb1_lt (n : Int) : fb1 n < 18446744073709551616 := by
 unfold fb1
 split
 ·exact Nat.lt_of_le_of_lt (Nat.pow_le_pow_right (by decide) (show (64 - n).toNat ≤ 63 by omega)) (by decide)
 ·decide
theorem fb2_lt (n : Int) : fb2 n < 18446744073709551616 := by
 unfold fb2
 split
 ·exact Nat.lt_of_le_of_lt (Nat.pow_le_pow_right (by decide) (show (128 - n).toNat ≤ 63 by omega)) (by decide)
 ·decide
def withAll : List Int → Nat × Nat → Nat × Nat
 | [], x => x
 | n :: m, x => withAll m (x.1 ||| fb1 n, x.2 ||| fb2 n)
def bitRaw (h l : Nat) : List UInt8 := if l = 0 then be8 h else be8 (9223372036854775808 + h) ++ be8 l
def bitPut (s : Int) (h l : Nat) : List UInt8 × Int :=
 if ¬ (s = 1 ∨ s = 2) ∨ 9223372036854775808 ≤ h then ([], 1) else (if s = 1 then hexPut (bitRaw h l) else bitRaw h l, 0)
def bitTake (s : Int) (l : List UInt8) (i : Nat) : List UInt8 × Nat × Int :=
 if s = 1 then (if l.length < i + 16 then (List.replicate 8 0, 0, 2) else if (hexGet ((l.drop i).take 16)).2.2 = true then ((hexGet ((l.drop i).take 16)).1, i + 16, 0) else (List.replicate 8 0, 0, 3))
 else (if l.length < i + 8 then (List.replicate 8 0, 0, 2) else ((l.drop i).take 8, i + 8, 0))
def bitGet (s : Int) (l : List UInt8) (a : Int) : (Nat × Nat) × Nat × Int :=
 if ¬ (s = 1 ∨ s = 2) ∨ a < 0 ∨ (l.length : Int) < a then ((0, 0), 0, 1)
 else if (bitTake s l a.toNat).2.2 ≠ 0 then ((0, 0), 0, (bitTake s l a.toNat).2.2)
 else if nat8 (bitTake s l a.toNat).1 < 9223372036854775808 then ((nat8 (bitTake s l a.toNat).1, 0), (bitTake s l a.toNat).2.1, 0)
 else if (bitTake s l (bitTake s l a.toNat).2.1).2.2 ≠ 0 then ((0, 0), 0, (bitTake s l (bitTake s l a.toNat).2.1).2.2)
 else if nat8 (bitTake s l (bitTake s l a.toNat).2.1).1 = 0 then ((0, 0), 0, 8)
 else ((nat8 (bitTake s l a.toNat).1 % 9223372036854775808, nat8 (bitTake s l (bitTake s l a.toNat).2.1).1), (bitTake s l (bitTake s l a.toNat).2.1).2.1, 0)
theorem hexGet_length {l m : List UInt8} (h : (hexGet l).2.2 = true) (hm : (hexGet l).1 = m) : hexPut m = l := by
 obtain ⟨r, n, b, e⟩ : ∃ r n b, hexGet l = (r, n, b) := ⟨(hexGet l).1, (hexGet l).2.1, (hexGet l).2.2, rfl⟩
 rw [e] at h hm
 obtain rfl : b = true := h
 obtain rfl : r = m := hm
 exact (hexGet_ok e).2
theorem bitTake_len (s : Int) (l : List UInt8) (i : Nat) : (bitTake s l i).1.length = 8 := by
 unfold bitTake
 split
 ·split
  ·rfl
  ·split
   ·rename_i h1 h2 h3
    have := congrArg List.length (hexGet_length h3 rfl)
    rw [hexPut_length, List.length_take, List.length_drop] at this
    dsimp only
    omega
   ·rfl
 ·split
  ·rfl
  ·rename_i h1 h2
   dsimp only
   rw [List.length_take, List.length_drop]; omega
def enc8 (s : Int) (t : List UInt8) : List UInt8 := if s = 1 then hexPut t else t
theorem enc8_append (s : Int) (t u : List UInt8) : enc8 s (t ++ u) = enc8 s t ++ enc8 s u := by
 unfold enc8; split
 ·exact hexPut_append t u
 ·rfl
theorem bitTake_ok {s : Int} {l : List UInt8} {i : Nat} (hi : i ≤ l.length) (h : (bitTake s l i).2.2 = 0) : (bitTake s l i).2.1 ≤ l.length ∧ (l.drop i).take ((bitTake s l i).2.1 - i) = enc8 s (bitTake s l i).1 ∧ i ≤ (bitTake s l i).2.1 := by
 unfold bitTake at h ⊢
 by_cases h1 : s = 1
 ·simp only [if_pos h1] at h ⊢
  by_cases h2 : l.length < i + 16
  ·rw [if_pos h2] at h; cases h
  ·rw [if_neg h2] at h ⊢
   by_cases h3 : (hexGet ((l.drop i).take 16)).2.2 = true
   ·rw [if_pos h3] at h ⊢
    refine ⟨by dsimp only; omega, ?_, by dsimp only; omega⟩
    dsimp only
    rw [show i + 16 - i = 16 by omega]
    unfold enc8
    rw [if_pos h1]
    exact (hexGet_length h3 rfl).symm
   ·rw [if_neg h3] at h; cases h
 ·simp only [if_neg h1] at h ⊢
  by_cases h2 : l.length < i + 8
  ·rw [if_pos h2] at h; cases h
  ·rw [if_neg h2] at h ⊢
   refine ⟨by dsimp only; omega, ?_, by dsimp only; omega⟩
   dsimp only
   rw [show i + 8 - i = 8 by omega]
   unfold enc8
   rw [if_neg h1]
theorem bitGet_ok {s : Int} {l : List UInt8} {a : Int} (h : (bitGet s l a).2.2 = 0) : (s = 1 ∨ s = 2) ∧ 0 ≤ a ∧ a ≤ (l.length : Int) ∧ (bitGet s l a).1.1 < 9223372036854775808 ∧ (bitGet s l a).1.2 < 18446744073709551616 ∧ (bitGet s l a).2.1 ≤ l.length ∧ a.toNat ≤ (bitGet s l a).2.1 ∧
  (l.drop a.toNat).take ((bitGet s l a).2.1 - a.toNat) = enc8 s (bitRaw (bitGet s l a).1.1 (bitGet s l a).1.2) := by
 unfold bitGet at h ⊢
 by_cases c1 : ¬ (s = 1 ∨ s = 2) ∨ a < 0 ∨ (l.length : Int) < a
 ·rw [if_pos c1] at h; cases h
 rw [if_neg c1] at h ⊢
 simp only [not_or, Classical.not_not] at c1
 have hi : a.toNat ≤ l.length := by omega
 refine ⟨by omega, by omega, by omega, ?_⟩
 by_cases c2 : (bitTake s l a.toNat).2.2 ≠ 0
 ·rw [if_pos c2] at h; exact absurd h c2
 rw [if_neg c2] at h ⊢
 have c2 : (bitTake s l a.toNat).2.2 = 0 := Classical.not_not.1 c2
 obtain ⟨t1, t2, t3⟩ := bitTake_ok hi c2
 have e1 := bitTake_len s l a.toNat
 have b1 := be8_nat8 e1
 have l1 := nat8_lt e1
 generalize bitTake s l a.toNat = T at *
 by_cases c3 : nat8 T.1 < 9223372036854775808
 ·rw [if_pos c3]
  refine ⟨c3, by show 0 < 18446744073709551616; decide, t1, t3, ?_⟩
  show _ = enc8 s (bitRaw (nat8 T.1) 0)
  unfold bitRaw
  rw [if_pos rfl, b1]; exact t2
 rw [if_neg c3] at h ⊢
 by_cases c4 : (bitTake s l T.2.1).2.2 ≠ 0
 ·rw [if_pos c4] at h; exact absurd h c4
 rw [if_neg c4] at h ⊢
 have c4 : (bitTake s l T.2.1).2.2 = 0 := Classical.not_not.1 c4
 obtain ⟨u1, u2, u3⟩ := bitTake_ok t1 c4
 have e2 := bitTake_len s l T.2.1
 have b2 := be8_nat8 e2
 have l2 := nat8_lt e2
 generalize bitTake s l T.2.1 = U at *
 by_cases c5 : nat8 U.1 = 0
 ·rw [if_pos c5] at h; cases h
 rw [if_neg c5] at h ⊢
 refine ⟨Nat.mod_lt _ (by decide), l2, u1, Nat.le_trans t3 u3, ?_⟩
 show _ = enc8 s (bitRaw (nat8 T.1 % 9223372036854775808) (nat8 U.1))
 unfold bitRaw
 rw [if_neg c5, enc8_append, b2, show 9223372036854775808 + nat8 T.1 % 9223372036854775808 = nat8 T.1 by omega, b1, ← t2, ← u2]
 dsimp only
 rw [show U.2.1 - a.toNat = (T.2.1 - a.toNat) + (U.2.1 - T.2.1) by omega, List.take_add, List.drop_drop, show a.toNat + (T.2.1 - a.toNat) = T.2.1 by omega]
def blen (x : Nat) : Nat := if x = 0 then 0 else Nat.log2 x + 1
theorem blen_half (x : Nat) (h : 1 ≤ x) : blen x = blen (x / 2) + 1 := by
 unfold blen
 rw [if_neg (by omega)]
 by_cases h2 : x = 1
 ·subst h2; rfl
 ·rw [if_neg (by omega)]
  congr 1
  rw [Nat.log2_def, if_pos (by omega)]
theorem blen_pos {x : Nat} (h : x ≠ 0) : 2 ^ (blen x - 1) ≤ x ∧ x < 2 ^ blen x ∧ 1 ≤ blen x := by
 unfold blen
 rw [if_neg h]
 exact ⟨Nat.log2_self_le h, Nat.lt_log2_self, by omega⟩
theorem blen_le {x : Nat} (h : x < 18446744073709551616) : blen x ≤ 64 := by
 by_cases h0 : x = 0
 ·subst h0; decide
 ·obtain ⟨h1, -, h3⟩ := blen_pos h0
  rcases Nat.lt_or_ge 64 (blen x) with h4 | h4
  ·have : 2 ^ 64 ≤ 2 ^ (blen x - 1) := Nat.pow_le_pow_right (by decide) (by omega)
   have h5 : (2 : Nat) ^ 64 = 18446744073709551616 := rfl
   omega
  ·exact h4
theorem blen_top {x : Nat} (h : x ≠ 0) : x.testBit (blen x - 1) = true := by
 obtain ⟨h1, h2, h3⟩ := blen_pos h
 rw [Nat.testBit_eq_decide_div_mod_eq]
 have e : 2 ^ blen x = 2 * 2 ^ (blen x - 1) := by
  rw [show blen x = (blen x - 1) + 1 by omega, Nat.pow_succ, Nat.add_sub_cancel]; omega
 rw [e] at h2
 have hp : 0 < 2 ^ (blen x - 1) := Nat.two_pow_pos _
 have : x / 2 ^ (blen x - 1) = 1 := by
  apply Nat.le_antisymm
  ·exact Nat.le_of_lt_succ ((Nat.div_lt_iff_lt_mul hp).2 (by omega))
  ·exact (Nat.le_div_iff_mul_le hp).2 (by omega)
 rw [this]; rfl
theorem blen_above {x j : Nat} (h : blen x ≤ j) : x.testBit j = false := by
 by_cases h0 : x = 0
 ·subst h0; simp
 ·obtain ⟨-, h2, -⟩ := blen_pos h0
  exact Nat.testBit_lt_two_pow (Nat.lt_of_lt_of_le h2 (Nat.pow_le_pow_right (by decide) h))
theorem lst_append (p : Nat → Bool) : ∀ (a i b : Nat), lst p i (a + b) = lst p i a ++ lst p (i + a) b
 | 0, i, b => by rw [Nat.zero_add]; rfl
 | a + 1, i, b => by
  rw [show a + 1 + b = (a + b) + 1 by omega, lst_cons, lst_append p a (i + 1) b, lst_cons, List.append_assoc, show i + 1 + a = i + (a + 1) by omega]
theorem lst_skip {p : Nat → Bool} : ∀ (z i c : Nat), z ≤ c → (∀ j, j < z → p (i + j) = false) → lst p i c = lst p (i + z) (c - z)
 | 0, i, c, _, _ => rfl
 | z + 1, i, c, hz, h => by
  obtain ⟨c, rfl⟩ : ∃ d, c = d + 1 := ⟨c - 1, by omega⟩
  have h0 := h 0 (by omega)
  rw [Nat.add_zero] at h0
  rw [lst_cons, h0, if_neg (by simp), List.nil_append, lst_skip z (i + 1) c (by omega) (fun j hj => by rw [show i + 1 + j = i + (j + 1) by omega]; exact h (j + 1) (by omega)), show i + 1 + z = i + (z + 1) by omega, Nat.add_sub_add_right]
theorem lst_first {p : Nat → Bool} {x i c : Nat} (hx : x < 18446744073709551616) (hc : c ≤ 64) (h1 : ∀ j, j < c → p (i + j) = x.testBit (63 - j)) (h2 : ∀ j, c ≤ j → j < 64 → x.testBit (63 - j) = false) :
  (x = 0 → lst p i c = []) ∧ (x ≠ 0 → (64 - blen x) < c ∧ lst p i c = ((i + (64 - blen x) : Nat) : Int) :: lst p (i + (64 - blen x) + 1) (c - (64 - blen x) - 1)) := by
 constructor
 ·rintro rfl
  exact lst_nil.2 fun j hj => by rw [h1 j hj]; simp
 ·intro h0
  obtain ⟨-, -, hb1⟩ := blen_pos h0
  have hb := blen_le hx
  have ht := blen_top h0
  have hz : 64 - blen x < c := by
   rcases Nat.lt_or_ge (64 - blen x) c with h | h
   ·exact h
   ·have := h2 (64 - blen x) h (by omega)
    rw [show 63 - (64 - blen x) = blen x - 1 by omega, ht] at this; cases this
  refine ⟨hz, ?_⟩
  rw [lst_skip (64 - blen x) i c (by omega) (fun j hj => by rw [h1 j (by omega)]; exact blen_above (by omega))]
  obtain ⟨d, hd⟩ : ∃ d, c - (64 - blen x) = d + 1 := ⟨c - (64 - blen x) - 1, by omega⟩
  have hp : p (i + (64 - blen x)) = true := by rw [h1 _ hz, show 63 - (64 - blen x) = blen x - 1 by omega, ht]
  rw [hd, lst_cons, hp, if_pos rfl, Nat.add_sub_cancel]; rfl
def fromS (h l n : Nat) : List Int := lst (fun m => fhas h l (m : Int)) (n + 1) (128 - n)
theorem fhas_high (h l m : Nat) (h1 : 1 ≤ m) (h2 : m ≤ 64) : fhas h l (m : Int) = h.testBit (64 - m) := by
 unfold fhas
 rw [if_neg (by omega), if_pos (by omega), show ((64 : Int) - (m : Int)).toNat = 64 - m by omega]
theorem fhas_low (h l m : Nat) (h1 : 65 ≤ m) (h2 : m ≤ 128) : fhas h l (m : Int) = l.testBit (128 - m) := by
 unfold fhas
 rw [if_neg (by omega), if_neg (by omega), show ((128 : Int) - (m : Int)).toNat = 128 - m by omega]
theorem shl_bit (x n j : Nat) (hn : n ≤ 64) (hj : j < 64) : (x * 2 ^ n % 18446744073709551616).testBit (63 - j) = (decide (j + n < 64) && x.testBit (63 - j - n)) := by
 rw [show (18446744073709551616 : Nat) = 2 ^ 64 from rfl, Nat.testBit_mod_two_pow, decide_eq_true (by omega : 63 - j < 64), Bool.true_and, Nat.mul_comm, Nat.testBit_two_pow_mul]
 congr 1
 exact decide_eq_decide.2 (by omega)
theorem from_low {h l n : Nat} (hn : 64 ≤ n) (hn2 : n ≤ 128) :
  (l * 2 ^ (n - 64) % 18446744073709551616 = 0 → fromS h l n = []) ∧ (l * 2 ^ (n - 64) % 18446744073709551616 ≠ 0 → fromS h l n = ((n + (64 - blen (l * 2 ^ (n - 64) % 18446744073709551616)) + 1 : Nat) : Int) :: fromS h l (n + (64 - blen (l * 2 ^ (n - 64) % 18446744073709551616)) + 1)) := by
 have := lst_first (p := fun m => fhas h l (m : Int)) (x := l * 2 ^ (n - 64) % 18446744073709551616) (i := n + 1) (c := 128 - n) (Nat.mod_lt _ (by decide)) (by omega)
  (fun j hj => by rw [shl_bit l (n - 64) j (by omega) (by omega), decide_eq_true (by omega), Bool.true_and, fhas_low h l _ (by omega) (by omega)]; congr 1; omega)
  (fun j h1 h2 => by rw [shl_bit l (n - 64) j (by omega) h2, decide_eq_false (by omega)]; rfl)
 refine ⟨this.1, fun h0 => ?_⟩
 obtain ⟨h1, h2⟩ := this.2 h0
 unfold fromS
 rw [h2, show n + 1 + (64 - blen (l * 2 ^ (n - 64) % 18446744073709551616)) = n + (64 - blen (l * 2 ^ (n - 64) % 18446744073709551616)) + 1 by omega, show 128 - n - (64 - blen (l * 2 ^ (n - 64) % 18446744073709551616)) - 1 = 128 - (n + (64 - blen (l * 2 ^ (n - 64) % 18446744073709551616)) + 1) by omega]
theorem from_high {h l n : Nat} (hn : n < 64) :
  (h * 2 ^ n % 18446744073709551616 = 0 → fromS h l n = fromS h l 64) ∧ (h * 2 ^ n % 18446744073709551616 ≠ 0 → fromS h l n = ((n + (64 - blen (h * 2 ^ n % 18446744073709551616)) + 1 : Nat) : Int) :: fromS h l (n + (64 - blen (h * 2 ^ n % 18446744073709551616)) + 1)) := by
 have := lst_first (p := fun m => fhas h l (m : Int)) (x := h * 2 ^ n % 18446744073709551616) (i := n + 1) (c := 64 - n) (Nat.mod_lt _ (by decide)) (by omega)
  (fun j hj => by rw [shl_bit h n j (by omega) (by omega), decide_eq_true (by omega), Bool.true_and, fhas_high h l _ (by omega) (by omega)]; congr 1; omega)
  (fun j h1 h2 => by rw [shl_bit h n j (by omega) h2, decide_eq_false (by omega)]; rfl)
 have e : fromS h l n = lst (fun m => fhas h l (m : Int)) (n + 1) (64 - n) ++ fromS h l 64 := by
  unfold fromS
  rw [show 128 - n = (64 - n) + 64 by omega, lst_append, show n + 1 + (64 - n) = 64 + 1 by omega]
 refine ⟨fun h0 => by rw [e, this.1 h0]; rfl, fun h0 => ?_⟩
 obtain ⟨h1, h2⟩ := this.2 h0
 generalize 64 - blen (h * 2 ^ n % 18446744073709551616) = z at *
 rw [e, h2, List.cons_append, show n + 1 + z = n + z + 1 by omega]
 congr 1
 unfold fromS
 rw [show 128 - (n + z + 1) = (64 - n - z - 1) + 64 by omega, lst_append, show n + z + 1 + 1 + (64 - n - z - 1) = 64 + 1 by omega]
def nextS (h l n : Nat) : Int := (fromS h l n).headD 0
theorem fromS_cons {h l n : Nat} (hn : n ≤ 128) {x : Int} {m : List Int} (e : fromS h l n = x :: m) : ∃ y : Nat, x = (y : Int) ∧ n < y ∧ y ≤ 128 ∧ m = fromS h l y := by
 rcases Nat.lt_or_ge n 64 with h1 | h1
 ·by_cases h0 : h * 2 ^ n % 18446744073709551616 = 0
  ·rw [(from_high h1).1 h0] at e
   by_cases h2 : l * 2 ^ (64 - 64) % 18446744073709551616 = 0
   ·rw [(from_low (h := h) (Nat.le_refl _) (by omega)).1 h2] at e; cases e
   ·rw [(from_low (h := h) (Nat.le_refl _) (by omega)).2 h2] at e
    injection e with e1 e2
    have hb := (blen_pos h2).2.2
    exact ⟨_, e1.symm, by omega, by omega, e2.symm⟩
  ·rw [(from_high h1).2 h0] at e
   injection e with e1 e2
   have hb := (blen_pos h0).2.2
   exact ⟨_, e1.symm, by omega, by omega, e2.symm⟩
 ·by_cases h2 : l * 2 ^ (n - 64) % 18446744073709551616 = 0
  ·rw [(from_low (h := h) h1 hn).1 h2] at e; cases e
  ·have hz := (lst_first (p := fun m => fhas h l (m : Int)) (x := l * 2 ^ (n - 64) % 18446744073709551616) (i := n + 1) (c := 128 - n) (Nat.mod_lt _ (by decide)) (by omega)
    (fun j hj => by rw [shl_bit l (n - 64) j (by omega) (by omega), decide_eq_true (by omega), Bool.true_and, fhas_low h l _ (by omega) (by omega)]; congr 1; omega)
    (fun j h1 h2 => by rw [shl_bit l (n - 64) j (by omega) h2, decide_eq_false (by omega)]; rfl)).2 h2
   rw [(from_low (h := h) h1 hn).2 h2] at e
   injection e with e1 e2
   exact ⟨_, e1.symm, by omega, by omega, e2.symm⟩
def right (l : List UInt8) : Bool := decide (l.length = 4) && l.all dig
theorem four {l : List UInt8} (h : right l = true) : ∃ a b c d, l = [a, b, c, d] ∧ dig a = true ∧ dig b = true ∧ dig c = true ∧ dig d = true := by
 simp only [right, Bool.and_eq_true, decide_eq_true_eq] at h
 obtain ⟨h4, hd⟩ := h
 match l, h4, hd with
 | [a, b, c, d], _, hd =>
  simp only [List.all_cons, List.all_nil, Bool.and_true, Bool.and_eq_true] at hd
  exact ⟨a, b, c, d, rfl, hd.1, hd.2.1, hd.2.2.1, hd.2.2.2⟩
def asks (l : List UInt8) : Bool := right l && (decide ((l[2]?.getD 0).toNat = 48) || decide ((l[2]?.getD 0).toNat = 50))
theorem asks_four {l : List UInt8} (h : asks l = true) : ∃ a b c d, l = [a, b, c, d] ∧ right l = true ∧ dig a = true ∧ dig b = true ∧ dig d = true ∧ (c.toNat = 48 ∨ c.toNat = 50) := by
 simp only [asks, Bool.and_eq_true, Bool.or_eq_true, decide_eq_true_eq] at h
 obtain ⟨a, b, c, d, rfl, ha, hb, hc, hd⟩ := four h.1
 exact ⟨a, b, c, d, rfl, h.1, ha, hb, hd, h.2⟩
abbrev V := Int × ByteArray
abbrev S5 := Int × Int × Int × Int × Int
def without (n : Int) (l : List V) : List V := l.filter fun v => decide (v.1 ≠ n)
def insV (n : Int) (x : ByteArray) : List V → List V
 | [] => [(n, x)]
 | v :: m => if n < v.1 then (n, x) :: v :: m else v :: insV n x m
def withV (n : Int) (x : ByteArray) (l : List V) : List V := insV n x (without n l)
def upTo (n : Int) : List V → Nat
 | [] => 0
 | v :: m => if n < v.1 then 0 else upTo n m + 1
theorem upTo_le (n : Int) : ∀ l, upTo n l ≤ l.length
 | [] => Nat.le_refl _
 | v :: m => by
  rw [upTo]; have := upTo_le n m
  split
  ·omega
  ·rw [List.length_cons]; omega
theorem insV_cut (n : Int) (x : ByteArray) : ∀ l, insV n x l = l.take (upTo n l) ++ [(n, x)] ++ l.drop (upTo n l)
 | [] => rfl
 | v :: m => by
  rw [insV, upTo]
  split
  ·rfl
  ·rw [insV_cut n x m]; rfl
def getV (n : Int) : List V → ByteArray × Bool
 | [] => (sb [], false)
 | v :: m => if v.1 = n then (v.2, true) else getV n m
def findV (n : Int) : Nat → List V → Int
 | _, [] => -1
 | i, v :: m => if v.1 = n then (i : Int) else findV n (i + 1) m
theorem findV_get (n : Int) : ∀ (l : List V) (i : Nat), (findV n i l < 0 ∧ getV n l = (sb [], false)) ∨ (∃ k : Nat, findV n i l = ((i + k : Nat) : Int) ∧ ∃ h : k < l.length, getV n l = (l[k].2, true))
 | [], i => .inl ⟨by show (-1 : Int) < 0; decide, rfl⟩
 | v :: m, i => by
  rw [findV, getV]
  split
  ·exact .inr ⟨0, rfl, by simp, rfl⟩
  ·rcases findV_get n m (i + 1) with h | ⟨k, h1, h2, h3⟩
   ·exact .inl h
   ·exact .inr ⟨k + 1, by rw [h1]; omega, by rw [List.length_cons]; omega, by rw [h3]; rfl⟩
theorem without_length (n : Int) (l : List V) : (without n l).length ≤ l.length := List.length_filter_le _ _
def findS (n : Int) : List S5 → S5 × Bool
 | [] => ((0, 0, 0, 0, 0), false)
 | v :: m => if v.1 = n then (v, true) else findS n m
def schE : Int → Nat → List S5 → Int × Int
 | _, _, [] => (0, 0)
 | p, i, v :: m => if specE v.1 v.2.1 v.2.2.1 v.2.2.2.1 v.2.2.2.2 ≠ 0 then (specE v.1 v.2.1 v.2.2.1 v.2.2.2.1 v.2.2.2.2, (i : Int)) else if v.1 ≤ p then (11, (i : Int)) else schE v.1 (i + 1) m
def schemaE (x : Int × Int × List S5) : Int × Int := if ¬ (x.1 = 1 ∨ x.1 = 2) then (1, -1) else if x.2.1 < 0 ∨ 9 < x.2.1 then (7, -1) else schE 0 0 x.2.2
def valE (s : List S5) : Int → List V → Int × Int
 | _, [] => (0, 0)
 | p, v :: m => if v.1 ≤ p then (11, v.1) else if (findS v.1 s).2 = false then (9, v.1) else if specV (findS v.1 s).1.1 (findS v.1 s).1.2.1 (findS v.1 s).1.2.2.1 (findS v.1 s).1.2.2.2.1 (findS v.1 s).1.2.2.2.2 (bl v.2) ≠ 0 then (specV (findS v.1 s).1.1 (findS v.1 s).1.2.1 (findS v.1 s).1.2.2.1 (findS v.1 s).1.2.2.2.1 (findS v.1 s).1.2.2.2.2 (bl v.2), v.1) else valE s v.1 m
def msgE (x : Int × Int × List S5) (t : List UInt8) (l : List V) : Int × Int :=
 if (schemaE x).1 ≠ 0 then (1, -1) else if right t = false then (7, 0) else if ((t.getD 0 0).toNat : Int) - 48 ≠ x.2.1 then (7, 0) else valE x.2.2 0 l
def rightV (s : List S5) (v : V) : Prop := (findS v.1 s).2 = true ∧ specV (findS v.1 s).1.1 (findS v.1 s).1.2.1 (findS v.1 s).1.2.2.1 (findS v.1 s).1.2.2.2.1 (findS v.1 s).1.2.2.2.2 (bl v.2) = 0
inductive Rise (s : List S5) : Int → List V → Prop
 | nil {p} : Rise s p []
 | cons {p : Int} {v : V} {m : List V} : p < v.1 → rightV s v → Rise s v.1 m → Rise s p (v :: m)
theorem valE_zero (s : List S5) : ∀ (l : List V) (p : Int), 0 ≤ p → ((valE s p l).1 = 0 ↔ Rise s p l) ∧ ((valE s p l).1 = 0 → valE s p l = (0, 0))
 | [], p, hp => ⟨⟨fun _ => .nil, fun _ => rfl⟩, fun _ => rfl⟩
 | v :: m, p, hp => by
  rw [valE]
  by_cases c1 : v.1 ≤ p
  ·rw [if_pos c1]
   exact ⟨⟨fun h => (by cases h), fun h => (by cases h with | cons h1 h2 h3 => omega)⟩, fun h => (by cases h)⟩
  rw [if_neg c1]
  by_cases c2 : (findS v.1 s).2 = false
  ·rw [if_pos c2]
   exact ⟨⟨fun h => (by cases h), fun h => (by cases h with | cons h1 h2 h3 => rw [h2.1] at c2; cases c2)⟩, fun h => (by cases h)⟩
  rw [if_neg c2]
  have c2' : (findS v.1 s).2 = true := by simpa using c2
  by_cases c3 : specV (findS v.1 s).1.1 (findS v.1 s).1.2.1 (findS v.1 s).1.2.2.1 (findS v.1 s).1.2.2.2.1 (findS v.1 s).1.2.2.2.2 (bl v.2) = 0
  ·rw [if_neg (not_not_intro c3)]
   obtain ⟨h1, h2⟩ := valE_zero s m v.1 (by omega)
   exact ⟨⟨fun h => .cons (by omega) ⟨c2', c3⟩ (h1.1 h), fun h => (by cases h with | cons _ _ h3 => exact h1.2 h3)⟩, h2⟩
  ·rw [if_pos c3]
   exact ⟨⟨fun h => absurd h c3, fun h => (by cases h with | cons h1 h2 h3 => exact absurd h2.2 c3)⟩, fun h => absurd h c3⟩
theorem msgE_zero (x : Int × Int × List S5) (t : List UInt8) (l : List V) : (msgE x t l = (0, 0) ↔ ((schemaE x).1 = 0 ∧ right t = true ∧ ((t.getD 0 0).toNat : Int) - 48 = x.2.1) ∧ Rise x.2.2 0 l) ∧ ((msgE x t l).1 = 0 ↔ msgE x t l = (0, 0)) := by
 unfold msgE
 by_cases c1 : (schemaE x).1 = 0
 ·rw [if_neg (not_not_intro c1)]
  by_cases c2 : right t = false
  ·rw [if_pos c2]
   exact ⟨⟨fun h => (by simp at h), fun h => (by rw [h.1.2.1] at c2; cases c2)⟩, ⟨fun h => (by simp at h), fun h => (by simp at h)⟩⟩
  ·rw [if_neg c2]
   have c2' : right t = true := by simpa using c2
   by_cases c3 : ((t.getD 0 0).toNat : Int) - 48 = x.2.1
   ·rw [if_neg (not_not_intro c3)]
    obtain ⟨h1, h2⟩ := valE_zero x.2.2 l 0 (Int.le_refl _)
    exact ⟨⟨fun h => ⟨⟨c1, c2', c3⟩, h1.1 (by rw [h])⟩, fun h => h2 (h1.2 h.2)⟩, ⟨h2, fun h => (by rw [h])⟩⟩
   ·rw [if_pos c3]
    exact ⟨⟨fun h => (by simp at h), fun h => absurd h.1.2.2 c3⟩, ⟨fun h => (by simp at h), fun h => (by simp at h)⟩⟩
 ·rw [if_pos c1]
  exact ⟨⟨fun h => (by simp at h), fun h => absurd h.1.1 c1⟩, ⟨fun h => (by simp at h), fun h => (by simp at h)⟩⟩
def widC (a b : Int) : Bool := decide (1 ≤ a ∧ a ≤ 6) && (decide (1 ≤ b ∧ b ≤ 6) && (Go.bits .andNot .i64 (setsC b) (setsC a) == 0))
theorem wid_range {a b : Int} (h : widC a b = true) : (1 ≤ a ∧ a ≤ 6) ∧ (1 ≤ b ∧ b ≤ 6) := by
 simp only [widC, Bool.and_eq_true, decide_eq_true_eq] at h
 exact ⟨h.1, h.2.1⟩
def specC (a b : Int) : Bool := if a = 5 then true else if a = 6 ∨ b = 6 then a == b else widC a b
def specW (no c fo mi ma no' c' fo' mi' ma' : Int) : Bool :=
 decide (specE no c fo mi ma = 0 ∧ specE no' c' fo' mi' ma' = 0 ∧ mi ≤ mi' ∧ ma' ≤ ma) && specC c c'
abbrev RC := List (ByteArray × ByteArray) × List (Int × Int × Int × ByteArray × List (ByteArray × ByteArray))
abbrev RJ := (Int × Int × List S5) × RC × List Int × List V
def codeV (n : Int) (l : List V) : ByteArray := if (getV n l).2 = true then (getV n l).1 else (getV 0 l).1
def echoE (s : List S5) : List Int → Nat → List Int → Option (Int × Int × Int)
 | _, _, [] => none
 | b, i, x :: m => if (findS x s).2 = false then some (9, 2, (i : Int)) else if x = 39 then some (1, 2, (i : Int)) else if x ∈ b then some (10, 2, (i : Int)) else echoE s (b ++ [x]) (i + 1) m
def specA (p : S5) (l : List UInt8) : Int := specV p.1 p.2.1 p.2.2.1 p.2.2.2.1 p.2.2.2.2 l
def codesE (p : S5) : List V → Nat → List V → Option (Int × Int × Int)
 | _, _, [] => none
 | b, i, v :: m => if v.1 < 0 ∨ 16 < v.1 then some (1, 3, (i : Int)) else if v.1 ∈ b.map Prod.fst then some (10, 3, (i : Int)) else if specA p (bl v.2) ≠ 0 then some (specA p (bl v.2), 3, (i : Int)) else codesE p (b ++ [v]) (i + 1) m
def rejE (x : RJ) : Int × Int × Int :=
 if (schemaE x.1).1 ≠ 0 then (1, 1, 0) else if (findS 39 x.1.2.2).2 = false then (9, 1, 1) else
  match echoE x.1.2.2 [] 0 x.2.2.1 with
  | some e => e
  | none => match codesE (findS 39 x.1.2.2).1 [] 0 x.2.2.2 with
   | some e => e
   | none => if (0 : Int) ∈ x.2.2.2.map Prod.fst then (0, 0, 0) else (15, 3, (x.2.2.2.length : Int))
def answer (t : List UInt8) : List UInt8 := [t.getD 0 0, t.getD 1 0, u8 ((t.getD 2 0).toNat + 1), t.getD 3 0]
def echoed (l : List V) : List Int → List V → List V
 | [], o => o
 | x :: m, o => echoed l m (if (getV x l).2 = true then withV x (getV x l).1 o else o)
def rejB (x : RJ) (t : List UInt8) (l : List V) (why : Int) : (ByteArray × List V) × Bool :=
 if asks t = true then ((sb (answer t), withV 39 (codeV why x.2.2.2) (echoed l x.2.2.1 [])), true) else ((sb [], []), false)
def greatR (x : RJ) : Bool := decide (200 < x.1.2.2.length) || decide (300 < x.2.2.1.length) || decide (300 < x.2.2.2.length) || x.2.2.2.any fun v => decide (1200 < v.2.size)
theorem greatR_no {x : RJ} (h : greatR x = false) : x.1.2.2.length ≤ 200 ∧ x.2.2.1.length ≤ 300 ∧ x.2.2.2.length ≤ 300 ∧ ∀ v ∈ x.2.2.2, v.2.size ≤ 1200 := by
 unfold greatR at h
 simp only [Bool.or_eq_false_iff, decide_eq_false_iff_not, List.any_eq_false, decide_eq_true_eq] at h
 exact ⟨by omega, by omega, by omega, fun v hv => by have := h.2 v hv; omega⟩
theorem getV_mem (n : Int) : ∀ {l : List V}, (getV n l).2 = true → (n, (getV n l).1) ∈ l
 | [], h => by cases h
 | v :: m, h => by
  rw [getV] at h ⊢
  split
  ·rename_i c; rw [← c]; exact List.mem_cons_self ..
  ·rename_i c
   rw [if_neg c] at h
   exact List.mem_cons_of_mem _ (getV_mem n h)
theorem len_sub : ∀ {l m : List Int}, l.Nodup → (∀ x ∈ l, x ∈ m) → l.length ≤ m.length
 | [], m, _, _ => Nat.zero_le _
 | a :: l, m, hn, h => by
  have ha := h a (List.mem_cons_self ..)
  obtain ⟨h1, h2⟩ := List.nodup_cons.1 hn
  have := len_sub (l := l) (m := m.erase a) h2 fun x hx => (List.mem_erase_of_ne (fun e : x = a => h1 (by rw [← e]; exact hx))).2 (h x (List.mem_cons_of_mem _ hx))
  rw [List.length_erase_of_mem ha] at this
  have := List.length_pos_of_mem ha
  rw [List.length_cons]; omega
def Own (g o : List V) : Prop := (o.map Prod.fst).Nodup ∧ ∀ x ∈ o.map Prod.fst, x ∈ g.map Prod.fst
theorem Own.len {g o : List V} (h : Own g o) : o.length ≤ g.length := by
 have := len_sub h.1 h.2
 rwa [List.length_map, List.length_map] at this
theorem insV_perm (n : Int) (x : ByteArray) (l : List V) : (insV n x l).Perm ((n, x) :: l) := by
 rw [insV_cut, List.append_assoc]
 have h := @List.perm_middle _ (n, x) (l.take (upTo n l)) (l.drop (upTo n l))
 rw [List.take_append_drop] at h
 exact h
theorem without_fst (n : Int) (l : List V) : (without n l).map Prod.fst = (l.map Prod.fst).filter fun x => decide (x ≠ n) := by
 unfold without
 rw [List.filter_map]; rfl
theorem withV_fst (n : Int) (x : ByteArray) (l : List V) : ((withV n x l).map Prod.fst).Perm (n :: (l.map Prod.fst).filter fun x => decide (x ≠ n)) := by
 have h := (insV_perm n x (without n l)).map Prod.fst
 rw [List.map_cons, without_fst] at h
 exact h
theorem Own.withV {g o : List V} (h : Own g o) {n : Int} (x : ByteArray) (hn : n ∈ g.map Prod.fst) : Own g (withV n x o) := by
 have hp := withV_fst n x o
 refine ⟨hp.nodup_iff.2 (List.nodup_cons.2 ⟨fun e => by simp at e, h.1.filter _⟩), fun y hy => ?_⟩
 rcases List.mem_cons.1 (hp.mem_iff.1 hy) with rfl | hy
 ·exact hn
 ·exact h.2 y (List.mem_filter.1 hy).1
theorem Own.nil (g : List V) : Own g [] := ⟨List.nodup_nil, fun x hx => by cases hx⟩
abbrev PB := ByteArray × ByteArray
abbrev RU := Int × Int × Int × ByteArray × List PB
def pairsL : List PB → List ByteArray → Nat → Int × Int
 | [], _, _ => (0, 0)
 | p :: l, seen, i => if p.1 ∈ seen then (10, (i : Int)) else pairsL l (seen ++ [p.1]) (i + 1)
def pairsE (l : List PB) : Int × Int := if 256 < l.length then (5, 256) else pairsL l [] 0
def applyP (t : ByteArray) : List PB → ByteArray × Bool
 | [] => (ByteArray.mk #[], false)
 | p :: l => if p.1 = t then (p.2, true) else applyP t l
def tableL (a b : S5) : List PB → Int
 | [] => 0
 | p :: l => if specA a (bl p.1) ≠ 0 then specA a (bl p.1) else if specA b (bl p.2) ≠ 0 then specA b (bl p.2) else tableL a b l
def tableE (l : List PB) (a b : S5) : Int := if (pairsE l).1 ≠ 0 ∨ l.length = 0 then 15 else tableL a b l
def wider (a b : S5) : Bool := specW a.1 a.2.1 a.2.2.1 a.2.2.2.1 a.2.2.2.2 b.1 b.2.1 b.2.2.1 b.2.2.2.1 b.2.2.2.2
def padded (s : S5) : Bool := decide (s.2.1 = 1) && decide (s.2.2.1 = 1)
def endsE (r : RU) (a b : List S5) : S5 × S5 × Int := ((findS r.2.1 a).1, (findS r.2.2.1 b).1,
 if (if r.1 = 3 then decide (r.2.1 = 0) else (findS r.2.1 a).2) = true ∧ (if r.1 = 2 then decide (r.2.2.1 = 0) else (findS r.2.2.1 b).2) = true then 0 else 9)
def ruleE (r : RU) (a b : List S5) : Int :=
 if r.1 < 1 ∨ 5 < r.1 then 1 else if (endsE r a b).2.2 ≠ 0 then (endsE r a b).2.2
 else if (r.2.2.2.1 ≠ ByteArray.mk #[] ∧ r.1 ≠ 3) ∨ (0 < r.2.2.2.2.length ∧ r.1 ≠ 5) then 3
 else if r.1 = 1 then (if wider (endsE r a b).2.1 (endsE r a b).1 = true then 0 else 6)
 else if r.1 = 3 then specA (endsE r a b).2.1 (bl r.2.2.2.1)
 else if r.1 = 4 then (if padded (endsE r a b).1 = true ∧ padded (endsE r a b).2.1 = true then 0 else 6)
 else if r.1 = 5 then tableE r.2.2.2.2 (endsE r a b).1 (endsE r a b).2.1
 else 0
def version (t : List UInt8) : Int := ((t.getD 0 0).toNat : Int) - 48
def typedP (p : PB) (v w : Int) : Bool := right (bl p.1) && (right (bl p.2) && (decide (version (bl p.1) = v) && (decide (version (bl p.2) = w) && decide (asks (bl p.1) = asks (bl p.2)))))
def mtisL (v w : Int) : List PB → List ByteArray → Nat → Option (Int × Int × Int)
 | [], _, _ => none
 | p :: l, seen, i => if typedP p v w = false then some (7, 2, (i : Int)) else if p.1 ∈ seen then some (10, 2, (i : Int)) else mtisL v w l (seen ++ [p.1]) (i + 1)
def rulesL (a b : List S5) : List RU → Nat → Nat × Nat → Nat × Nat → Int × Int × Int
 | [], _, _, _ => (0, 0, 0)
 | r :: l, i, f, t => if ruleE r a b ≠ 0 then (ruleE r a b, 3, (i : Int))
  else if ¬ (f.1 &&& fb1 r.2.1 = 0 ∧ f.2 &&& fb2 r.2.1 = 0) then (10, 3, (i : Int))
  else if ¬ (t.1 &&& fb1 r.2.2.1 = 0 ∧ t.2 &&& fb2 r.2.2.1 = 0) then (10, 3, (i : Int))
  else rulesL a b l (i + 1) (f.1 ||| fb1 r.2.1, f.2 ||| fb2 r.2.1) (t.1 ||| fb1 r.2.2.1, t.2 ||| fb2 r.2.2.1)
def mapE (m : RC) (a b : Int × Int × List S5) : Int × Int × Int :=
 if (schemaE a).1 ≠ 0 then (1, 1, 0) else if (schemaE b).1 ≠ 0 then (1, 1, 1)
 else if 256 < m.1.length then (5, 2, 256)
 else match mtisL a.2.1 b.2.1 m.1 [] 0 with
  | some e => e
  | none => if 256 < m.2.length then (5, 3, 256) else rulesL a.2.2 b.2.2 m.2 0 (0, 0) (0, 0)
def ruleOf (n : Int) : List RU → RU × Bool
 | [] => ((0, 0, 0, ByteArray.mk #[], []), false)
 | r :: l => if r.2.1 = n then (r, true) else ruleOf n l
end Go.Proofs.YtkaihbkfobiejaaGreatDoor.Sp
