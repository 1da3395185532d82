import Derived.Laws.Bits64b
import Derived.Test.YtkaihbkfobiejaaGreatDoorNgb
/- Sets of fields as two numbers of sixty-four bits, in plain words. -/
namespace Go.Proofs.YtkaihbkfobiejaaGreatDoor.Sp
open Go Go.RowKit
set_option linter.unusedVariables false
set_option linter.unusedSimpArgs false
/-- Is a field in the set of these halves? -/
def fhas (h l : Nat) (n : Int) : Bool := if n < 1 ∨ 128 < n then false else if n ≤ 64 then h.testBit (64 - n).toNat else l.testBit (128 - n).toNat
theorem or_top {x : Nat} (h : x < 9223372036854775808) : x ||| 9223372036854775808 = 9223372036854775808 + x := by
  have := Nat.two_pow_add_eq_or_of_lt (i := 63) (b := x) (by simpa using h) 1
  rw [Nat.or_comm]
  simpa using this.symm
theorem and_pow (x i : Nat) : x &&& 2 ^ i = (x.testBit i).toNat * 2 ^ i := by
  apply Nat.eq_of_testBit_eq
  intro j
  rw [Nat.testBit_and, Nat.testBit_two_pow]
  by_cases h : i = j
  · subst h
    cases hb : x.testBit i <;> simp [hb, Nat.testBit_two_pow]
  · cases hb : x.testBit i <;> simp [h, Nat.testBit_two_pow]
theorem and_top (x : Nat) : x &&& 9223372036854775808 = if x.testBit 63 = true then 9223372036854775808 else 0 := by
  have := and_pow x 63
  rw [show (9223372036854775808 : Nat) = 2 ^ 63 from rfl, this]
  cases x.testBit 63 <;> simp
theorem top_iff {x : Nat} (h : x < 18446744073709551616) : x.testBit 63 = decide (9223372036854775808 ≤ x) := by
  rw [Nat.testBit_eq_decide_div_mod_eq]
  congr 1
  rw [show (2 : Nat) ^ 63 = 9223372036854775808 from rfl]
  apply propext
  omega
theorem andNot_top (x : Nat) (h : x < 18446744073709551616) : Go.bits .andNot .u64 (x : Int) 9223372036854775808 = ((x % 9223372036854775808 : Nat) : Int) := by
  show IntKind.u64.wrap ((BitVec.ofInt 64 (x : Int) &&& ~~~ BitVec.ofInt 64 ((9223372036854775808 : Nat) : Int)).toNat : Int) = _
  rw [BitVec.toNat_and, BitVec.toNat_not, BitVec.ofInt_natCast, BitVec.ofInt_natCast, BitVec.toNat_ofNat, BitVec.toNat_ofNat, Nat.mod_eq_of_lt (show x < 2 ^ 64 from h)]
  have : x &&& (2 ^ 64 - 1 - 9223372036854775808 % 2 ^ 64) = x % 2 ^ 63 := Nat.and_two_pow_sub_one_eq_mod x 63
  rw [this, show (2 : Nat) ^ 63 = 9223372036854775808 from rfl, IntKind.wrap_u64]
  omega
/-- Eight bytes of a number, the greatest first. -/
def be8 (x : Nat) : List UInt8 := [u8 (x / 72057594037927936 % 256), u8 (x / 281474976710656 % 256), u8 (x / 1099511627776 % 256), u8 (x / 4294967296 % 256), u8 (x / 16777216 % 256), u8 (x / 65536 % 256), u8 (x / 256 % 256), u8 (x % 256)]
theorem be8_length (x : Nat) : (be8 x).length = 8 := rfl
def nat8 (l : List UInt8) : Nat := l.foldl (fun a b => 256 * a + b.toNat) 0
theorem nat8_be8 {x : Nat} (h : x < 18446744073709551616) : nat8 (be8 x) = x := by
  have e : ∀ n, (u8 (n % 256)).toNat = n % 256 := fun n => u8_toNat _ (Nat.mod_lt _ (by decide))
  simp only [nat8, be8, List.foldl_cons, List.foldl_nil, e]
  have h1 : x / 281474976710656 = 256 * (x / 72057594037927936) + x / 281474976710656 % 256 := by omega
  have h2 : x / 1099511627776 = 256 * (x / 281474976710656) + x / 1099511627776 % 256 := by omega
  have h3 : x / 4294967296 = 256 * (x / 1099511627776) + x / 4294967296 % 256 := by omega
  have h4 : x / 16777216 = 256 * (x / 4294967296) + x / 16777216 % 256 := by omega
  have h5 : x / 65536 = 256 * (x / 16777216) + x / 65536 % 256 := by omega
  have h6 : x / 256 = 256 * (x / 65536) + x / 256 % 256 := by omega
  have h7 : x = 256 * (x / 256) + x % 256 := by omega
  have h0 : 256 * 0 + x / 72057594037927936 % 256 = x / 72057594037927936 := by omega
  rw [h0, ← h1, ← h2, ← h3, ← h4, ← h5, ← h6, ← h7]
theorem eight {l : List UInt8} (h : l.length = 8) : ∃ a b c d e f g i, l = [a, b, c, d, e, f, g, i] := by
  match l, h with
  | [a, b, c, d, e, f, g, i], _ => exact ⟨a, b, c, d, e, f, g, i, rfl⟩
theorem nat8_lt {l : List UInt8} (h : l.length = 8) : nat8 l < 18446744073709551616 := by
  obtain ⟨a, b, c, d, e, f, g, i, rfl⟩ := eight h
  have := u8_lt a; have := u8_lt b; have := u8_lt c; have := u8_lt d; have := u8_lt e; have := u8_lt f; have := u8_lt g; have := u8_lt i
  simp only [nat8, List.foldl_cons, List.foldl_nil]
  omega
theorem step8 (p : Nat) (a : UInt8) : (256 * p + a.toNat) % 256 = a.toNat ∧ (256 * p + a.toNat) / 256 = p := by
  have := u8_lt a; omega
theorem be8_nat8 {l : List UInt8} (h : l.length = 8) : be8 (nat8 l) = l := by
  obtain ⟨a, b, c, d, e, f, g, i, rfl⟩ := eight h
  simp only [nat8, List.foldl_cons, List.foldl_nil, be8]
  generalize h1 : 256 * 0 + a.toNat = p1
  generalize h2 : 256 * p1 + b.toNat = p2
  generalize h3 : 256 * p2 + c.toNat = p3
  generalize h4 : 256 * p3 + d.toNat = p4
  generalize h5 : 256 * p4 + e.toNat = p5
  generalize h6 : 256 * p5 + f.toNat = p6
  generalize h7 : 256 * p6 + g.toNat = p7
  generalize h8 : 256 * p7 + i.toNat = p8
  have q8 := step8 p7 i; have q7 := step8 p6 g; have q6 := step8 p5 f; have q5 := step8 p4 e; have q4 := step8 p3 d; have q3 := step8 p2 c; have q2 := step8 p1 b; have q1 := step8 0 a
  rw [h8] at q8; rw [h7] at q7; rw [h6] at q6; rw [h5] at q5; rw [h4] at q4; rw [h3] at q3; rw [h2] at q2; rw [h1] at q1
  have d7 : p8 / 256 = p7 := q8.2
  have d6 : p8 / 65536 = p6 := by rw [show 65536 = 256 * 256 from rfl, ← Nat.div_div_eq_div_mul, d7, q7.2]
  have d5 : p8 / 16777216 = p5 := by rw [show 16777216 = 65536 * 256 from rfl, ← Nat.div_div_eq_div_mul, d6, q6.2]
  have d4 : p8 / 4294967296 = p4 := by rw [show 4294967296 = 16777216 * 256 from rfl, ← Nat.div_div_eq_div_mul, d5, q5.2]
  have d3 : p8 / 1099511627776 = p3 := by rw [show 1099511627776 = 4294967296 * 256 from rfl, ← Nat.div_div_eq_div_mul, d4, q4.2]
  have d2 : p8 / 281474976710656 = p2 := by rw [show 281474976710656 = 1099511627776 * 256 from rfl, ← Nat.div_div_eq_div_mul, d3, q3.2]
  have d1 : p8 / 72057594037927936 = p1 := by rw [show 72057594037927936 = 281474976710656 * 256 from rfl, ← Nat.div_div_eq_div_mul, d2, q2.2]
  rw [d1, d2, d3, d4, d5, d6, d7, q1.1, q2.1, q3.1, q4.1, q5.1, q6.1, q7.1, q8.1]
  simp only [u8_of_nat]
/-- A number out of a row of bits. -/
def hor (p : Nat → Bool) (i : Nat) : Nat → Nat
  | 0 => 0
  | c + 1 => 2 * hor p i c + (p (i + c)).toNat
theorem hor_lt (p : Nat → Bool) (i : Nat) : ∀ c, hor p i c < 2 ^ c
  | 0 => by simp [hor]
  | c + 1 => by
    have := hor_lt p i c
    have := Bool.toNat_le (p (i + c))
    rw [hor, Nat.pow_succ]; omega
theorem hor_bit (p : Nat → Bool) (i : Nat) : ∀ (c j : Nat), j < c → (hor p i c).testBit (c - 1 - j) = p (i + j)
  | 0, j, h => absurd h (by omega)
  | c + 1, j, h => by
    rw [hor]
    rcases Nat.lt_or_ge j c with hj | hj
    · rw [show c + 1 - 1 - j = (c - 1 - j) + 1 by omega, Nat.testBit_succ, show (2 * hor p i c + (p (i + c)).toNat) / 2 = hor p i c by have := Bool.toNat_le (p (i + c)); omega]
      exact hor_bit p i c j hj
    · obtain rfl : j = c := by omega
      rw [show j + 1 - 1 - j = 0 by omega, Nat.testBit_zero]
      cases p (i + j) <;> simp <;> omega
theorem hor_of {x i : Nat} {p : Nat → Bool} (h : ∀ j, j < 64 → p (i + j) = x.testBit (63 - j)) (k : Nat) : ∀ c, k + c ≤ 64 → hor p (i + k) c = x / 2 ^ (64 - k - c) % 2 ^ c
  | 0, hc => by simp [hor, Nat.mod_one]
  | c + 1, hc => by
    have e1 : 2 ^ (64 - k - c) = 2 ^ (64 - k - (c + 1)) * 2 := by rw [← Nat.pow_succ]; congr 1; omega
    rw [hor, hor_of h k c (by omega), Nat.add_assoc, h (k + c) (by omega), Nat.testBit_eq_decide_div_mod_eq, show 63 - (k + c) = 64 - k - (c + 1) by omega, e1, ← Nat.div_div_eq_div_mul]
    generalize x / 2 ^ (64 - k - (c + 1)) = y
    rw [Nat.pow_succ, Nat.mul_comm (2 ^ c) 2, Nat.mod_mul]
    by_cases hy : y % 2 = 1 <;> simp [hy] <;> omega
theorem hor_64 {x i : Nat} {p : Nat → Bool} (hx : x < 18446744073709551616) (h : ∀ j, j < 64 → p (i + j) = x.testBit (63 - j)) : hor p i 64 = x := by
  have := hor_of h 0 64 (by omega)
  simp only [Nat.add_zero, Nat.sub_zero, Nat.sub_self, Nat.pow_zero, Nat.div_one] at this
  rw [this, Nat.mod_eq_of_lt (by simpa using hx)]
theorem hor_byte {x i : Nat} {p : Nat → Bool} (h : ∀ j, j < 64 → p (i + j) = x.testBit (63 - j)) (b : Nat) (hb : b < 8) : (be8 x)[b]? = some (u8 (hor p (i + 8 * b) 8)) := by
  rw [hor_of h (8 * b) 8 (by omega)]
  match b, hb with
  | 0, _ => rfl
  | 1, _ => rfl
  | 2, _ => rfl
  | 3, _ => rfl
  | 4, _ => rfl
  | 5, _ => rfl
  | 6, _ => rfl
  | 7, _ => show some (u8 (x % 256)) = some (u8 (x / 1 % 256)); rw [Nat.div_one]
/-- The numbers that a row of bits names. -/
def lst (p : Nat → Bool) (i c : Nat) : List Int := ((List.range' i c).filter p).map fun n => ((n : Nat) : Int)
theorem lst_snoc (p : Nat → Bool) (i c : Nat) : lst p i (c + 1) = lst p i c ++ (if p (i + c) = true then [((i + c : Nat) : Int)] else []) := by
  unfold lst
  rw [List.range'_concat, List.filter_append, List.map_append, Nat.one_mul]
  congr 1
  by_cases h : p (i + c) = true <;> simp [h]
theorem lst_cons (p : Nat → Bool) (i c : Nat) : lst p i (c + 1) = (if p i = true then [(i : Int)] else []) ++ lst p (i + 1) c := by
  unfold lst
  rw [List.range'_succ, List.filter_cons]
  by_cases h : p i = true <;> simp [h]
theorem mem_lst (p : Nat → Bool) (i c : Nat) (n : Nat) : ((n : Int) ∈ lst p i c) ↔ (i ≤ n ∧ n < i + c) ∧ p n = true := by
  unfold lst
  simp only [List.mem_map, List.mem_filter, List.mem_range'_1, Int.ofNat_inj]
  constructor
  · rintro ⟨m, hm, rfl⟩; exact hm
  · intro h; exact ⟨n, h, rfl⟩
theorem lst_length (p : Nat → Bool) (i c : Nat) : (lst p i c).length ≤ c := by
  unfold lst
  rw [List.length_map]
  exact Nat.le_trans (List.length_filter_le _ _) (by simp)
theorem bits_zero {x : Nat} (hx : x < 18446744073709551616) : x = 0 ↔ ∀ j, j < 64 → x.testBit (63 - j) = false := by
  constructor
  · rintro rfl j _; simp
  · intro h
    apply Nat.eq_of_testBit_eq
    intro i
    rw [Nat.zero_testBit]
    rcases Nat.lt_or_ge i 64 with hi | hi
    · have := h (63 - i) (by omega)
      rwa [show 63 - (63 - i) = i by omega] at this
    · exact Nat.testBit_lt_two_pow (Nat.lt_of_lt_of_le (show x < 2 ^ 64 from hx) (Nat.pow_le_pow_right (by decide) hi))
theorem lst_nil {p : Nat → Bool} {i c : Nat} : lst p i c = [] ↔ ∀ j, j < c → p (i + j) = false := by
  unfold lst
  rw [List.map_eq_nil_iff, List.filter_eq_nil_iff]
  constructor
  · intro h j hj
    have := h (i + j) (by rw [List.mem_range'_1]; omega)
    simpa using this
  · intro h n hn
    rw [List.mem_range'_1] at hn
    have := h (n - i) (by omega)
    rw [show i + (n - i) = n by omega] at this
    simp [this]
/-! ### One field -/
def fb1 (n : Int) : Nat := if 1 ≤ n ∧ n ≤ 64 then 2 ^ (64 - n).toNat else 0
def fb2 (n : Int) : Nat := if 64 < n ∧ n ≤ 128 then 2 ^ (128 - n).toNat else 0
theorem fb1_lt (n : Int) : fb1 n < 18446744073709551616 := by
  unfold fb1
  split
  · exact Nat.lt_of_le_of_lt (Nat.pow_le_pow_right (by decide) (show (64 - n).toNat ≤ 63 by omega)) (by decide)
  · decide
theorem fb2_lt (n : Int) : fb2 n < 18446744073709551616 := by
  unfold fb2
  split
  · exact Nat.lt_of_le_of_lt (Nat.pow_le_pow_right (by decide) (show (128 - n).toNat ≤ 63 by omega)) (by decide)
  · decide
/-- The set of some numbers. -/
def withAll : List Int → Nat × Nat → Nat × Nat
  | [], x => x
  | n :: m, x => withAll m (x.1 ||| fb1 n, x.2 ||| fb2 n)
/-! ### The bit map -/
def bitRaw (h l : Nat) : List UInt8 := if l = 0 then be8 h else be8 (9223372036854775808 + h) ++ be8 l
def bitPut (s : Int) (h l : Nat) : List UInt8 × Int :=
  if ¬ (s = 1 ∨ s = 2) ∨ 9223372036854775808 ≤ h then ([], 1) else (if s = 1 then hexPut (bitRaw h l) else bitRaw h l, 0)
def bitTake (s : Int) (l : List UInt8) (i : Nat) : List UInt8 × Nat × Int :=
  if s = 1 then (if l.length < i + 16 then (List.replicate 8 0, 0, 2) else if (hexGet ((l.drop i).take 16)).2.2 = true then ((hexGet ((l.drop i).take 16)).1, i + 16, 0) else (List.replicate 8 0, 0, 3))
  else (if l.length < i + 8 then (List.replicate 8 0, 0, 2) else ((l.drop i).take 8, i + 8, 0))
def bitGet (s : Int) (l : List UInt8) (a : Int) : (Nat × Nat) × Nat × Int :=
  if ¬ (s = 1 ∨ s = 2) ∨ a < 0 ∨ (l.length : Int) < a then ((0, 0), 0, 1)
  else if (bitTake s l a.toNat).2.2 ≠ 0 then ((0, 0), 0, (bitTake s l a.toNat).2.2)
  else if nat8 (bitTake s l a.toNat).1 < 9223372036854775808 then ((nat8 (bitTake s l a.toNat).1, 0), (bitTake s l a.toNat).2.1, 0)
  else if (bitTake s l (bitTake s l a.toNat).2.1).2.2 ≠ 0 then ((0, 0), 0, (bitTake s l (bitTake s l a.toNat).2.1).2.2)
  else if nat8 (bitTake s l (bitTake s l a.toNat).2.1).1 = 0 then ((0, 0), 0, 8)
  else ((nat8 (bitTake s l a.toNat).1 % 9223372036854775808, nat8 (bitTake s l (bitTake s l a.toNat).2.1).1), (bitTake s l (bitTake s l a.toNat).2.1).2.1, 0)
theorem hexGet_length {l m : List UInt8} (h : (hexGet l).2.2 = true) (hm : (hexGet l).1 = m) : hexPut m = l := by
  obtain ⟨r, n, b, e⟩ : ∃ r n b, hexGet l = (r, n, b) := ⟨(hexGet l).1, (hexGet l).2.1, (hexGet l).2.2, rfl⟩
  rw [e] at h hm
  obtain rfl : b = true := h
  obtain rfl : r = m := hm
  exact (hexGet_ok e).2
theorem bitTake_len (s : Int) (l : List UInt8) (i : Nat) : (bitTake s l i).1.length = 8 := by
  unfold bitTake
  split
  · split
    · rfl
    · split
      · rename_i h1 h2 h3
        have := congrArg List.length (hexGet_length h3 rfl)
        rw [hexPut_length, List.length_take, List.length_drop] at this
        dsimp only
        omega
      · rfl
  · split
    · rfl
    · rename_i h1 h2
      dsimp only
      rw [List.length_take, List.length_drop]; omega
end Go.Proofs.YtkaihbkfobiejaaGreatDoor.Sp

/- Bit maps: what was put comes back, in plain words. -/
namespace Go.Proofs.YtkaihbkfobiejaaGreatDoor.Sp
open Go Go.RowKit
set_option linter.unusedVariables false
set_option linter.unusedSimpArgs false
def enc8 (s : Int) (t : List UInt8) : List UInt8 := if s = 1 then hexPut t else t
theorem enc8_append (s : Int) (t u : List UInt8) : enc8 s (t ++ u) = enc8 s t ++ enc8 s u := by
  unfold enc8; split
  · exact hexPut_append t u
  · rfl
theorem enc8_length (s : Int) (t : List UInt8) : (enc8 s t).length = (if s = 1 then 2 else 1) * t.length := by
  unfold enc8; split
  · exact hexPut_length t
  · omega
theorem bitTake_put (s : Int) (p t q : List UInt8) (ht : t.length = 8) : bitTake s (p ++ (enc8 s t ++ q)) p.length = (t, p.length + (enc8 s t).length, 0) := by
  have hlen := enc8_length s t
  unfold bitTake
  rw [List.drop_left, List.length_append, List.length_append]
  by_cases h : s = 1
  · rw [if_pos h] at hlen
    have hw : (enc8 s t).length = 16 := by omega
    rw [if_pos h, if_neg (by omega), ← hw, List.take_left]
    have : enc8 s t = hexPut t := by unfold enc8; rw [if_pos h]
    rw [this, hexGet_put, if_pos rfl]
  · rw [if_neg h] at hlen
    have hw : (enc8 s t).length = 8 := by omega
    rw [if_neg h, if_neg (by omega), ← hw, List.take_left]
    have : enc8 s t = t := by unfold enc8; rw [if_neg h]
    rw [this]
theorem bitTake_ok {s : Int} {l : List UInt8} {i : Nat} (hi : i ≤ l.length) (h : (bitTake s l i).2.2 = 0) : (bitTake s l i).2.1 ≤ l.length ∧ (l.drop i).take ((bitTake s l i).2.1 - i) = enc8 s (bitTake s l i).1 ∧ i ≤ (bitTake s l i).2.1 := by
  unfold bitTake at h ⊢
  by_cases h1 : s = 1
  · simp only [if_pos h1] at h ⊢
    by_cases h2 : l.length < i + 16
    · rw [if_pos h2] at h; cases h
    · rw [if_neg h2] at h ⊢
      by_cases h3 : (hexGet ((l.drop i).take 16)).2.2 = true
      · rw [if_pos h3] at h ⊢
        refine ⟨by dsimp only; omega, ?_, by dsimp only; omega⟩
        dsimp only
        rw [show i + 16 - i = 16 by omega]
        unfold enc8
        rw [if_pos h1]
        exact (hexGet_length h3 rfl).symm
      · rw [if_neg h3] at h; cases h
  · simp only [if_neg h1] at h ⊢
    by_cases h2 : l.length < i + 8
    · rw [if_pos h2] at h; cases h
    · rw [if_neg h2] at h ⊢
      refine ⟨by dsimp only; omega, ?_, by dsimp only; omega⟩
      dsimp only
      rw [show i + 8 - i = 8 by omega]
      unfold enc8
      rw [if_neg h1]
theorem bitPut_ok {s : Int} {h l : Nat} (hk : s = 1 ∨ s = 2) (hh : h < 9223372036854775808) : bitPut s h l = (enc8 s (bitRaw h l), 0) := by
  unfold bitPut
  rw [if_neg (show ¬ (¬ (s = 1 ∨ s = 2) ∨ 9223372036854775808 ≤ h) from fun e => e.elim (fun e => e hk) (by omega))]
  rfl
theorem bitPut_err {s : Int} {h l : Nat} : (bitPut s h l).2 = 0 ↔ (s = 1 ∨ s = 2) ∧ h < 9223372036854775808 := by
  constructor
  · intro e
    unfold bitPut at e
    split at e
    · cases e
    · rename_i hc
      simp only [not_or, Classical.not_not] at hc
      exact ⟨by omega, by omega⟩
  · rintro ⟨h1, h2⟩; rw [bitPut_ok h1 h2]
theorem bitPut_err1 {s : Int} {h l : Nat} (e : ¬ (bitPut s h l).2 = 0) : bitPut s h l = ([], 1) := by
  unfold bitPut at e ⊢
  split
  · rfl
  · rename_i hc; rw [if_neg hc] at e; exact absurd rfl e
theorem bitGet_put {s : Int} {h l : Nat} (hk : s = 1 ∨ s = 2) (hh : h < 9223372036854775808) (hl : l < 18446744073709551616) (p q : List UInt8) :
    bitGet s (p ++ (enc8 s (bitRaw h l) ++ q)) (p.length : Int) = ((h, l), p.length + (enc8 s (bitRaw h l)).length, 0) := by
  unfold bitGet
  rw [if_neg (show ¬ (¬ (s = 1 ∨ s = 2) ∨ (p.length : Int) < 0 ∨ _) from fun e => e.elim (fun e => e hk) (fun e => e.elim (by omega) (by rw [List.length_append]; omega))), Int.toNat_natCast]
  unfold bitRaw
  by_cases h0 : l = 0
  · rw [if_pos h0, bitTake_put s p (be8 h) q rfl]
    simp only [ne_eq, not_true_eq_false, if_false]
    rw [nat8_be8 (by omega), if_pos hh, h0]
  · rw [if_neg h0, enc8_append, List.append_assoc, bitTake_put s p (be8 (9223372036854775808 + h)) _ rfl]
    simp only [ne_eq, not_true_eq_false, if_false]
    rw [nat8_be8 (by omega), if_neg (by omega)]
    have := bitTake_put s (p ++ enc8 s (be8 (9223372036854775808 + h))) (be8 l) q rfl
    rw [List.append_assoc, List.length_append] at this
    rw [this]
    simp only [ne_eq, not_true_eq_false, if_false]
    rw [nat8_be8 hl, if_neg h0, show (9223372036854775808 + h) % 9223372036854775808 = h by omega, List.length_append, Nat.add_assoc]
theorem bitGet_err {s : Int} {l : List UInt8} {a : Int} (h : ¬ (bitGet s l a).2.2 = 0) : (bitGet s l a).1 = (0, 0) ∧ (bitGet s l a).2.1 = 0 := by
  revert h
  unfold bitGet
  repeat' split
  all_goals intro h
  all_goals first | exact ⟨rfl, rfl⟩ | exact absurd rfl h
theorem bitGet_ok {s : Int} {l : List UInt8} {a : Int} (h : (bitGet s l a).2.2 = 0) : (s = 1 ∨ s = 2) ∧ 0 ≤ a ∧ a ≤ (l.length : Int) ∧ (bitGet s l a).1.1 < 9223372036854775808 ∧ (bitGet s l a).1.2 < 18446744073709551616 ∧ (bitGet s l a).2.1 ≤ l.length ∧ a.toNat ≤ (bitGet s l a).2.1 ∧
    (l.drop a.toNat).take ((bitGet s l a).2.1 - a.toNat) = enc8 s (bitRaw (bitGet s l a).1.1 (bitGet s l a).1.2) := by
  unfold bitGet at h ⊢
  by_cases c1 : ¬ (s = 1 ∨ s = 2) ∨ a < 0 ∨ (l.length : Int) < a
  · rw [if_pos c1] at h; cases h
  rw [if_neg c1] at h ⊢
  simp only [not_or, Classical.not_not] at c1
  have hi : a.toNat ≤ l.length := by omega
  refine ⟨by omega, by omega, by omega, ?_⟩
  by_cases c2 : (bitTake s l a.toNat).2.2 ≠ 0
  · rw [if_pos c2] at h; exact absurd h c2
  rw [if_neg c2] at h ⊢
  have c2 : (bitTake s l a.toNat).2.2 = 0 := Classical.not_not.1 c2
  obtain ⟨t1, t2, t3⟩ := bitTake_ok hi c2
  have e1 := bitTake_len s l a.toNat
  have b1 := be8_nat8 e1
  have l1 := nat8_lt e1
  generalize bitTake s l a.toNat = T at *
  by_cases c3 : nat8 T.1 < 9223372036854775808
  · rw [if_pos c3]
    refine ⟨c3, by show 0 < 18446744073709551616; decide, t1, t3, ?_⟩
    show _ = enc8 s (bitRaw (nat8 T.1) 0)
    unfold bitRaw
    rw [if_pos rfl, b1]; exact t2
  rw [if_neg c3] at h ⊢
  by_cases c4 : (bitTake s l T.2.1).2.2 ≠ 0
  · rw [if_pos c4] at h; exact absurd h c4
  rw [if_neg c4] at h ⊢
  have c4 : (bitTake s l T.2.1).2.2 = 0 := Classical.not_not.1 c4
  obtain ⟨u1, u2, u3⟩ := bitTake_ok t1 c4
  have e2 := bitTake_len s l T.2.1
  have b2 := be8_nat8 e2
  have l2 := nat8_lt e2
  generalize bitTake s l T.2.1 = U at *
  by_cases c5 : nat8 U.1 = 0
  · rw [if_pos c5] at h; cases h
  rw [if_neg c5] at h ⊢
  refine ⟨Nat.mod_lt _ (by decide), l2, u1, Nat.le_trans t3 u3, ?_⟩
  show _ = enc8 s (bitRaw (nat8 T.1 % 9223372036854775808) (nat8 U.1))
  unfold bitRaw
  rw [if_neg c5, enc8_append, b2, show 9223372036854775808 + nat8 T.1 % 9223372036854775808 = nat8 T.1 by omega, b1, ← t2, ← u2]
  dsimp only
  rw [show U.2.1 - a.toNat = (T.2.1 - a.toNat) + (U.2.1 - T.2.1) by omega, List.take_add, List.drop_drop, show a.toNat + (T.2.1 - a.toNat) = T.2.1 by omega]
end Go.Proofs.YtkaihbkfobiejaaGreatDoor.Sp

/- The next number of a set, in plain words. -/
namespace Go.Proofs.YtkaihbkfobiejaaGreatDoor.Sp
open Go Go.RowKit
set_option linter.unusedVariables false
set_option linter.unusedSimpArgs false
/-- How many bits a number has. -/
def blen (x : Nat) : Nat := if x = 0 then 0 else Nat.log2 x + 1
theorem blen_half (x : Nat) (h : 1 ≤ x) : blen x = blen (x / 2) + 1 := by
  unfold blen
  rw [if_neg (by omega)]
  by_cases h2 : x = 1
  · subst h2; rfl
  · rw [if_neg (by omega)]
    congr 1
    rw [Nat.log2_def, if_pos (by omega)]
theorem blen_div : ∀ (k x : Nat), 2 ^ k ≤ x → blen x = blen (x / 2 ^ k) + k
  | 0, x, _ => by simp
  | k + 1, x, h => by
    rw [Nat.pow_succ] at h
    have h1 : 1 ≤ 2 ^ k := Nat.one_le_two_pow
    rw [blen_half x (by omega), blen_div k (x / 2) (by omega), Nat.div_div_eq_div_mul, Nat.pow_succ, Nat.mul_comm 2]
    omega
theorem blen_pos {x : Nat} (h : x ≠ 0) : 2 ^ (blen x - 1) ≤ x ∧ x < 2 ^ blen x ∧ 1 ≤ blen x := by
  unfold blen
  rw [if_neg h]
  exact ⟨Nat.log2_self_le h, Nat.lt_log2_self, by omega⟩
theorem blen_le {x : Nat} (h : x < 18446744073709551616) : blen x ≤ 64 := by
  by_cases h0 : x = 0
  · subst h0; decide
  · obtain ⟨h1, -, h3⟩ := blen_pos h0
    rcases Nat.lt_or_ge 64 (blen x) with h4 | h4
    · have : 2 ^ 64 ≤ 2 ^ (blen x - 1) := Nat.pow_le_pow_right (by decide) (by omega)
      have h5 : (2 : Nat) ^ 64 = 18446744073709551616 := rfl
      omega
    · exact h4
theorem blen_top {x : Nat} (h : x ≠ 0) : x.testBit (blen x - 1) = true := by
  obtain ⟨h1, h2, h3⟩ := blen_pos h
  rw [Nat.testBit_eq_decide_div_mod_eq]
  have e : 2 ^ blen x = 2 * 2 ^ (blen x - 1) := by
    rw [show blen x = (blen x - 1) + 1 by omega, Nat.pow_succ, Nat.add_sub_cancel]; omega
  rw [e] at h2
  have hp : 0 < 2 ^ (blen x - 1) := Nat.two_pow_pos _
  have : x / 2 ^ (blen x - 1) = 1 := by
    apply Nat.le_antisymm
    · exact Nat.le_of_lt_succ ((Nat.div_lt_iff_lt_mul hp).2 (by omega))
    · exact (Nat.le_div_iff_mul_le hp).2 (by omega)
  rw [this]; rfl
theorem blen_above {x j : Nat} (h : blen x ≤ j) : x.testBit j = false := by
  by_cases h0 : x = 0
  · subst h0; simp
  · obtain ⟨-, h2, -⟩ := blen_pos h0
    exact Nat.testBit_lt_two_pow (Nat.lt_of_lt_of_le h2 (Nat.pow_le_pow_right (by decide) h))
theorem lst_append (p : Nat → Bool) : ∀ (a i b : Nat), lst p i (a + b) = lst p i a ++ lst p (i + a) b
  | 0, i, b => by rw [Nat.zero_add]; rfl
  | a + 1, i, b => by
    rw [show a + 1 + b = (a + b) + 1 by omega, lst_cons, lst_append p a (i + 1) b, lst_cons, List.append_assoc, show i + 1 + a = i + (a + 1) by omega]
theorem lst_skip {p : Nat → Bool} : ∀ (z i c : Nat), z ≤ c → (∀ j, j < z → p (i + j) = false) → lst p i c = lst p (i + z) (c - z)
  | 0, i, c, _, _ => rfl
  | z + 1, i, c, hz, h => by
    obtain ⟨c, rfl⟩ : ∃ d, c = d + 1 := ⟨c - 1, by omega⟩
    have h0 := h 0 (by omega)
    rw [Nat.add_zero] at h0
    rw [lst_cons, h0, if_neg (by simp), List.nil_append, lst_skip z (i + 1) c (by omega) (fun j hj => by rw [show i + 1 + j = i + (j + 1) by omega]; exact h (j + 1) (by omega)), show i + 1 + z = i + (z + 1) by omega, Nat.add_sub_add_right]
/-- The first of a run of numbers, by the bits of a word. -/
theorem lst_first {p : Nat → Bool} {x i c : Nat} (hx : x < 18446744073709551616) (hc : c ≤ 64) (h1 : ∀ j, j < c → p (i + j) = x.testBit (63 - j)) (h2 : ∀ j, c ≤ j → j < 64 → x.testBit (63 - j) = false) :
    (x = 0 → lst p i c = []) ∧ (x ≠ 0 → (64 - blen x) < c ∧ lst p i c = ((i + (64 - blen x) : Nat) : Int) :: lst p (i + (64 - blen x) + 1) (c - (64 - blen x) - 1)) := by
  constructor
  · rintro rfl
    exact lst_nil.2 fun j hj => by rw [h1 j hj]; simp
  · intro h0
    obtain ⟨-, -, hb1⟩ := blen_pos h0
    have hb := blen_le hx
    have ht := blen_top h0
    have hz : 64 - blen x < c := by
      rcases Nat.lt_or_ge (64 - blen x) c with h | h
      · exact h
      · have := h2 (64 - blen x) h (by omega)
        rw [show 63 - (64 - blen x) = blen x - 1 by omega, ht] at this; cases this
    refine ⟨hz, ?_⟩
    rw [lst_skip (64 - blen x) i c (by omega) (fun j hj => by rw [h1 j (by omega)]; exact blen_above (by omega))]
    obtain ⟨d, hd⟩ : ∃ d, c - (64 - blen x) = d + 1 := ⟨c - (64 - blen x) - 1, by omega⟩
    have hp : p (i + (64 - blen x)) = true := by rw [h1 _ hz, show 63 - (64 - blen x) = blen x - 1 by omega, ht]
    rw [hd, lst_cons, hp, if_pos rfl, Nat.add_sub_cancel]; rfl
/-- The numbers of a set from one on. -/
def fromS (h l n : Nat) : List Int := lst (fun m => fhas h l (m : Int)) (n + 1) (128 - n)
theorem fhas_high (h l m : Nat) (h1 : 1 ≤ m) (h2 : m ≤ 64) : fhas h l (m : Int) = h.testBit (64 - m) := by
  unfold fhas
  rw [if_neg (by omega), if_pos (by omega), show ((64 : Int) - (m : Int)).toNat = 64 - m by omega]
theorem fhas_low (h l m : Nat) (h1 : 65 ≤ m) (h2 : m ≤ 128) : fhas h l (m : Int) = l.testBit (128 - m) := by
  unfold fhas
  rw [if_neg (by omega), if_neg (by omega), show ((128 : Int) - (m : Int)).toNat = 128 - m by omega]
theorem shl_bit (x n j : Nat) (hn : n ≤ 64) (hj : j < 64) : (x * 2 ^ n % 18446744073709551616).testBit (63 - j) = (decide (j + n < 64) && x.testBit (63 - j - n)) := by
  rw [show (18446744073709551616 : Nat) = 2 ^ 64 from rfl, Nat.testBit_mod_two_pow, decide_eq_true (by omega : 63 - j < 64), Bool.true_and, Nat.mul_comm, Nat.testBit_two_pow_mul]
  congr 1
  exact decide_eq_decide.2 (by omega)
theorem from_low {h l n : Nat} (hn : 64 ≤ n) (hn2 : n ≤ 128) :
    (l * 2 ^ (n - 64) % 18446744073709551616 = 0 → fromS h l n = []) ∧ (l * 2 ^ (n - 64) % 18446744073709551616 ≠ 0 → fromS h l n = ((n + (64 - blen (l * 2 ^ (n - 64) % 18446744073709551616)) + 1 : Nat) : Int) :: fromS h l (n + (64 - blen (l * 2 ^ (n - 64) % 18446744073709551616)) + 1)) := by
  have := lst_first (p := fun m => fhas h l (m : Int)) (x := l * 2 ^ (n - 64) % 18446744073709551616) (i := n + 1) (c := 128 - n) (Nat.mod_lt _ (by decide)) (by omega)
    (fun j hj => by rw [shl_bit l (n - 64) j (by omega) (by omega), decide_eq_true (by omega), Bool.true_and, fhas_low h l _ (by omega) (by omega)]; congr 1; omega)
    (fun j h1 h2 => by rw [shl_bit l (n - 64) j (by omega) h2, decide_eq_false (by omega)]; rfl)
  refine ⟨this.1, fun h0 => ?_⟩
  obtain ⟨h1, h2⟩ := this.2 h0
  unfold fromS
  rw [h2, show n + 1 + (64 - blen (l * 2 ^ (n - 64) % 18446744073709551616)) = n + (64 - blen (l * 2 ^ (n - 64) % 18446744073709551616)) + 1 by omega, show 128 - n - (64 - blen (l * 2 ^ (n - 64) % 18446744073709551616)) - 1 = 128 - (n + (64 - blen (l * 2 ^ (n - 64) % 18446744073709551616)) + 1) by omega]
theorem from_high {h l n : Nat} (hn : n < 64) :
    (h * 2 ^ n % 18446744073709551616 = 0 → fromS h l n = fromS h l 64) ∧ (h * 2 ^ n % 18446744073709551616 ≠ 0 → fromS h l n = ((n + (64 - blen (h * 2 ^ n % 18446744073709551616)) + 1 : Nat) : Int) :: fromS h l (n + (64 - blen (h * 2 ^ n % 18446744073709551616)) + 1)) := by
  have := lst_first (p := fun m => fhas h l (m : Int)) (x := h * 2 ^ n % 18446744073709551616) (i := n + 1) (c := 64 - n) (Nat.mod_lt _ (by decide)) (by omega)
    (fun j hj => by rw [shl_bit h n j (by omega) (by omega), decide_eq_true (by omega), Bool.true_and, fhas_high h l _ (by omega) (by omega)]; congr 1; omega)
    (fun j h1 h2 => by rw [shl_bit h n j (by omega) h2, decide_eq_false (by omega)]; rfl)
  have e : fromS h l n = lst (fun m => fhas h l (m : Int)) (n + 1) (64 - n) ++ fromS h l 64 := by
    unfold fromS
    rw [show 128 - n = (64 - n) + 64 by omega, lst_append, show n + 1 + (64 - n) = 64 + 1 by omega]
  refine ⟨fun h0 => by rw [e, this.1 h0]; rfl, fun h0 => ?_⟩
  obtain ⟨h1, h2⟩ := this.2 h0
  generalize 64 - blen (h * 2 ^ n % 18446744073709551616) = z at *
  rw [e, h2, List.cons_append, show n + 1 + z = n + z + 1 by omega]
  congr 1
  unfold fromS
  rw [show 128 - (n + z + 1) = (64 - n - z - 1) + 64 by omega, lst_append, show n + z + 1 + 1 + (64 - n - z - 1) = 64 + 1 by omega]
/-- The next number of a set. -/
def nextS (h l n : Nat) : Int := (fromS h l n).headD 0
theorem fromS_cons {h l n : Nat} (hn : n ≤ 128) {x : Int} {m : List Int} (e : fromS h l n = x :: m) : ∃ y : Nat, x = (y : Int) ∧ n < y ∧ y ≤ 128 ∧ m = fromS h l y := by
  rcases Nat.lt_or_ge n 64 with h1 | h1
  · by_cases h0 : h * 2 ^ n % 18446744073709551616 = 0
    · rw [(from_high h1).1 h0] at e
      by_cases h2 : l * 2 ^ (64 - 64) % 18446744073709551616 = 0
      · rw [(from_low (h := h) (Nat.le_refl _) (by omega)).1 h2] at e; cases e
      · rw [(from_low (h := h) (Nat.le_refl _) (by omega)).2 h2] at e
        injection e with e1 e2
        have hb := (blen_pos h2).2.2
        exact ⟨_, e1.symm, by omega, by omega, e2.symm⟩
    · rw [(from_high h1).2 h0] at e
      injection e with e1 e2
      have hb := (blen_pos h0).2.2
      exact ⟨_, e1.symm, by omega, by omega, e2.symm⟩
  · by_cases h2 : l * 2 ^ (n - 64) % 18446744073709551616 = 0
    · rw [(from_low (h := h) h1 hn).1 h2] at e; cases e
    · have hz := (lst_first (p := fun m => fhas h l (m : Int)) (x := l * 2 ^ (n - 64) % 18446744073709551616) (i := n + 1) (c := 128 - n) (Nat.mod_lt _ (by decide)) (by omega)
        (fun j hj => by rw [shl_bit l (n - 64) j (by omega) (by omega), decide_eq_true (by omega), Bool.true_and, fhas_low h l _ (by omega) (by omega)]; congr 1; omega)
        (fun j h1 h2 => by rw [shl_bit l (n - 64) j (by omega) h2, decide_eq_false (by omega)]; rfl)).2 h2
      rw [(from_low (h := h) h1 hn).2 h2] at e
      injection e with e1 e2
      exact ⟨_, e1.symm, by omega, by omega, e2.symm⟩
end Go.Proofs.YtkaihbkfobiejaaGreatDoor.Sp
