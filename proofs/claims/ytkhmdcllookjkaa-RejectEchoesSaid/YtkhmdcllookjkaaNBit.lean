/- Sets of fields as two numbers of sixty-four bits, in plain words. -/
import Derived.Laws.Bits64b
import Derived.Test.YtkhmdcllookjkaaNHex
namespace Go.Proofs.Ytkhmdcllookjkaa.Sp
open Go Go.RowKit
set_option linter.unusedVariables false
set_option linter.unusedSimpArgs false
/-- Is a field in the set of these halves? -/
def fhas (h l : Nat) (n : Int) : Bool := if n < 1 ∨ 128 < n then false else if n ≤ 64 then h.testBit (64 - n).toNat else l.testBit (128 - n).toNat
theorem or_top {x : Nat} (h : x < 9223372036854775808) : x ||| 9223372036854775808 = 9223372036854775808 + x := by
  have := Nat.two_pow_add_eq_or_of_lt (i := 63) (b := x) (by simpa using h) 1
  rw [Nat.or_comm]
  simpa using this.symm
theorem and_pow (x i : Nat) : x &&& 2 ^ i = (x.testBit i).toNat * 2 ^ i := by
  apply Nat.eq_of_testBit_eq
  intro j
  rw [Nat.testBit_and, Nat.testBit_two_pow]
  by_cases h : i = j
  · subst h
    cases hb : x.testBit i <;> simp [hb, Nat.testBit_two_pow]
  · cases hb : x.testBit i <;> simp [h, Nat.testBit_two_pow]
theorem and_top (x : Nat) : x &&& 9223372036854775808 = if x.testBit 63 = true then 9223372036854775808 else 0 := by
  have := and_pow x 63
  rw [show (9223372036854775808 : Nat) = 2 ^ 63 from rfl, this]
  cases x.testBit 63 <;> simp
theorem top_iff {x : Nat} (h : x < 18446744073709551616) : x.testBit 63 = decide (9223372036854775808 ≤ x) := by
  rw [Nat.testBit_eq_decide_div_mod_eq]
  congr 1
  rw [show (2 : Nat) ^ 63 = 9223372036854775808 from rfl]
  apply propext
  omega
theorem andNot_top (x : Nat) (h : x < 18446744073709551616) : Go.bits .andNot .u64 (x : Int) 9223372036854775808 = ((x % 9223372036854775808 : Nat) : Int) := by
  show IntKind.u64.wrap ((BitVec.ofInt 64 (x : Int) &&& ~~~ BitVec.ofInt 64 ((9223372036854775808 : Nat) : Int)).toNat : Int) = _
  rw [BitVec.toNat_and, BitVec.toNat_not, BitVec.ofInt_natCast, BitVec.ofInt_natCast, BitVec.toNat_ofNat, BitVec.toNat_ofNat, Nat.mod_eq_of_lt (show x < 2 ^ 64 from h)]
  have : x &&& (2 ^ 64 - 1 - 9223372036854775808 % 2 ^ 64) = x % 2 ^ 63 := Nat.and_two_pow_sub_one_eq_mod x 63
  rw [this, show (2 : Nat) ^ 63 = 9223372036854775808 from rfl, IntKind.wrap_u64]
  omega
/-- Eight bytes of a number, the greatest first. -/
def be8 (x : Nat) : List UInt8 := [u8 (x / 72057594037927936 % 256), u8 (x / 281474976710656 % 256), u8 (x / 1099511627776 % 256), u8 (x / 4294967296 % 256), u8 (x / 16777216 % 256), u8 (x / 65536 % 256), u8 (x / 256 % 256), u8 (x % 256)]
theorem be8_length (x : Nat) : (be8 x).length = 8 := rfl
def nat8 (l : List UInt8) : Nat := l.foldl (fun a b => 256 * a + b.toNat) 0
theorem nat8_be8 {x : Nat} (h : x < 18446744073709551616) : nat8 (be8 x) = x := by
  have e : ∀ n, (u8 (n % 256)).toNat = n % 256 := fun n => u8_toNat _ (Nat.mod_lt _ (by decide))
  simp only [nat8, be8, List.foldl_cons, List.foldl_nil, e]
  have h1 : x / 281474976710656 = 256 * (x / 72057594037927936) + x / 281474976710656 % 256 := by omega
  have h2 : x / 1099511627776 = 256 * (x / 281474976710656) + x / 1099511627776 % 256 := by omega
  have h3 : x / 4294967296 = 256 * (x / 1099511627776) + x / 4294967296 % 256 := by omega
  have h4 : x / 16777216 = 256 * (x / 4294967296) + x / 16777216 % 256 := by omega
  have h5 : x / 65536 = 256 * (x / 16777216) + x / 65536 % 256 := by omega
  have h6 : x / 256 = 256 * (x / 65536) + x / 256 % 256 := by omega
  have h7 : x = 256 * (x / 256) + x % 256 := by omega
  have h0 : 256 * 0 + x / 72057594037927936 % 256 = x / 72057594037927936 := by omega
  rw [h0, ← h1, ← h2, ← h3, ← h4, ← h5, ← h6, ← h7]
theorem eight {l : List UInt8} (h : l.length = 8) : ∃ a b c d e f g i, l = [a, b, c, d, e, f, g, i] := by
  match l, h with
  | [a, b, c, d, e, f, g, i], _ => exact ⟨a, b, c, d, e, f, g, i, rfl⟩
theorem nat8_lt {l : List UInt8} (h : l.length = 8) : nat8 l < 18446744073709551616 := by
  obtain ⟨a, b, c, d, e, f, g, i, rfl⟩ := eight h
  have := u8_lt a; have := u8_lt b; have := u8_lt c; have := u8_lt d; have := u8_lt e; have := u8_lt f; have := u8_lt g; have := u8_lt i
  simp only [nat8, List.foldl_cons, List.foldl_nil]
  omega
theorem step8 (p : Nat) (a : UInt8) : (256 * p + a.toNat) % 256 = a.toNat ∧ (256 * p + a.toNat) / 256 = p := by
  have := u8_lt a; omega
theorem be8_nat8 {l : List UInt8} (h : l.length = 8) : be8 (nat8 l) = l := by
  obtain ⟨a, b, c, d, e, f, g, i, rfl⟩ := eight h
  simp only [nat8, List.foldl_cons, List.foldl_nil, be8]
  generalize h1 : 256 * 0 + a.toNat = p1
  generalize h2 : 256 * p1 + b.toNat = p2
  generalize h3 : 256 * p2 + c.toNat = p3
  generalize h4 : 256 * p3 + d.toNat = p4
  generalize h5 : 256 * p4 + e.toNat = p5
  generalize h6 : 256 * p5 + f.toNat = p6
  generalize h7 : 256 * p6 + g.toNat = p7
  generalize h8 : 256 * p7 + i.toNat = p8
  have q8 := step8 p7 i; have q7 := step8 p6 g; have q6 := step8 p5 f; have q5 := step8 p4 e; have q4 := step8 p3 d; have q3 := step8 p2 c; have q2 := step8 p1 b; have q1 := step8 0 a
  rw [h8] at q8; rw [h7] at q7; rw [h6] at q6; rw [h5] at q5; rw [h4] at q4; rw [h3] at q3; rw [h2] at q2; rw [h1] at q1
  have d7 : p8 / 256 = p7 := q8.2
  have d6 : p8 / 65536 = p6 := by rw [show 65536 = 256 * 256 from rfl, ← Nat.div_div_eq_div_mul, d7, q7.2]
  have d5 : p8 / 16777216 = p5 := by rw [show 16777216 = 65536 * 256 from rfl, ← Nat.div_div_eq_div_mul, d6, q6.2]
  have d4 : p8 / 4294967296 = p4 := by rw [show 4294967296 = 16777216 * 256 from rfl, ← Nat.div_div_eq_div_mul, d5, q5.2]
  have d3 : p8 / 1099511627776 = p3 := by rw [show 1099511627776 = 4294967296 * 256 from rfl, ← Nat.div_div_eq_div_mul, d4, q4.2]
  have d2 : p8 / 281474976710656 = p2 := by rw [show 281474976710656 = 1099511627776 * 256 from rfl, ← Nat.div_div_eq_div_mul, d3, q3.2]
  have d1 : p8 / 72057594037927936 = p1 := by rw [show 72057594037927936 = 281474976710656 * 256 from rfl, ← Nat.div_div_eq_div_mul, d2, q2.2]
  rw [d1, d2, d3, d4, d5, d6, d7, q1.1, q2.1, q3.1, q4.1, q5.1, q6.1, q7.1, q8.1]
  simp only [u8_of_nat]
/-- A number out of a row of bits. -/
def hor (p : Nat → Bool) (i : Nat) : Nat → Nat
  | 0 => 0
  | c + 1 => 2 * hor p i c + (p (i + c)).toNat
theorem hor_lt (p : Nat → Bool) (i : Nat) : ∀ c, hor p i c < 2 ^ c
  | 0 => by simp [hor]
  | c + 1 => by
    have := hor_lt p i c
    have := Bool.toNat_le (p (i + c))
    rw [hor, Nat.pow_succ]; omega
theorem hor_bit (p : Nat → Bool) (i : Nat) : ∀ (c j : Nat), j < c → (hor p i c).testBit (c - 1 - j) = p (i + j)
  | 0, j, h => absurd h (by omega)
  | c + 1, j, h => by
    rw [hor]
    rcases Nat.lt_or_ge j c with hj | hj
    · rw [show c + 1 - 1 - j = (c - 1 - j) + 1 by omega, Nat.testBit_succ, show (2 * hor p i c + (p (i + c)).toNat) / 2 = hor p i c by have := Bool.toNat_le (p (i + c)); omega]
      exact hor_bit p i c j hj
    · obtain rfl : j = c := by omega
      rw [show j + 1 - 1 - j = 0 by omega, Nat.testBit_zero]
      cases p (i + j) <;> simp <;> omega
theorem hor_of {x i : Nat} {p : Nat → Bool} (h : ∀ j, j < 64 → p (i + j) = x.testBit (63 - j)) (k : Nat) : ∀ c, k + c ≤ 64 → hor p (i + k) c = x / 2 ^ (64 - k - c) % 2 ^ c
  | 0, hc => by simp [hor, Nat.mod_one]
  | c + 1, hc => by
    have e1 : 2 ^ (64 - k - c) = 2 ^ (64 - k - (c + 1)) * 2 := by rw [← Nat.pow_succ]; congr 1; omega
    rw [hor, hor_of h k c (by omega), Nat.add_assoc, h (k + c) (by omega), Nat.testBit_eq_decide_div_mod_eq, show 63 - (k + c) = 64 - k - (c + 1) by omega, e1, ← Nat.div_div_eq_div_mul]
    generalize x / 2 ^ (64 - k - (c + 1)) = y
    rw [Nat.pow_succ, Nat.mul_comm (2 ^ c) 2, Nat.mod_mul]
    by_cases hy : y % 2 = 1 <;> simp [hy] <;> omega
theorem hor_64 {x i : Nat} {p : Nat → Bool} (hx : x < 18446744073709551616) (h : ∀ j, j < 64 → p (i + j) = x.testBit (63 - j)) : hor p i 64 = x := by
  have := hor_of h 0 64 (by omega)
  simp only [Nat.add_zero, Nat.sub_zero, Nat.sub_self, Nat.pow_zero, Nat.div_one] at this
  rw [this, Nat.mod_eq_of_lt (by simpa using hx)]
theorem hor_byte {x i : Nat} {p : Nat → Bool} (h : ∀ j, j < 64 → p (i + j) = x.testBit (63 - j)) (b : Nat) (hb : b < 8) : (be8 x)[b]? = some (u8 (hor p (i + 8 * b) 8)) := by
  rw [hor_of h (8 * b) 8 (by omega)]
  match b, hb with
  | 0, _ => rfl
  | 1, _ => rfl
  | 2, _ => rfl
  | 3, _ => rfl
  | 4, _ => rfl
  | 5, _ => rfl
  | 6, _ => rfl
  | 7, _ => show some (u8 (x % 256)) = some (u8 (x / 1 % 256)); rw [Nat.div_one]
/-- The numbers that a row of bits names. -/
def lst (p : Nat → Bool) (i c : Nat) : List Int := ((List.range' i c).filter p).map fun n => ((n : Nat) : Int)
theorem lst_snoc (p : Nat → Bool) (i c : Nat) : lst p i (c + 1) = lst p i c ++ (if p (i + c) = true then [((i + c : Nat) : Int)] else []) := by
  unfold lst
  rw [List.range'_concat, List.filter_append, List.map_append, Nat.one_mul]
  congr 1
  by_cases h : p (i + c) = true <;> simp [h]
theorem lst_cons (p : Nat → Bool) (i c : Nat) : lst p i (c + 1) = (if p i = true then [(i : Int)] else []) ++ lst p (i + 1) c := by
  unfold lst
  rw [List.range'_succ, List.filter_cons]
  by_cases h : p i = true <;> simp [h]
theorem mem_lst (p : Nat → Bool) (i c : Nat) (n : Nat) : ((n : Int) ∈ lst p i c) ↔ (i ≤ n ∧ n < i + c) ∧ p n = true := by
  unfold lst
  simp only [List.mem_map, List.mem_filter, List.mem_range'_1, Int.ofNat_inj]
  constructor
  · rintro ⟨m, hm, rfl⟩; exact hm
  · intro h; exact ⟨n, h, rfl⟩
theorem lst_length (p : Nat → Bool) (i c : Nat) : (lst p i c).length ≤ c := by
  unfold lst
  rw [List.length_map]
  exact Nat.le_trans (List.length_filter_le _ _) (by simp)
theorem bits_zero {x : Nat} (hx : x < 18446744073709551616) : x = 0 ↔ ∀ j, j < 64 → x.testBit (63 - j) = false := by
  constructor
  · rintro rfl j _; simp
  · intro h
    apply Nat.eq_of_testBit_eq
    intro i
    rw [Nat.zero_testBit]
    rcases Nat.lt_or_ge i 64 with hi | hi
    · have := h (63 - i) (by omega)
      rwa [show 63 - (63 - i) = i by omega] at this
    · exact Nat.testBit_lt_two_pow (Nat.lt_of_lt_of_le (show x < 2 ^ 64 from hx) (Nat.pow_le_pow_right (by decide) hi))
theorem lst_nil {p : Nat → Bool} {i c : Nat} : lst p i c = [] ↔ ∀ j, j < c → p (i + j) = false := by
  unfold lst
  rw [List.map_eq_nil_iff, List.filter_eq_nil_iff]
  constructor
  · intro h j hj
    have := h (i + j) (by rw [List.mem_range'_1]; omega)
    simpa using this
  · intro h n hn
    rw [List.mem_range'_1] at hn
    have := h (n - i) (by omega)
    rw [show i + (n - i) = n by omega] at this
    simp [this]
/-! ### One field -/
def fb1 (n : Int) : Nat := if 1 ≤ n ∧ n ≤ 64 then 2 ^ (64 - n).toNat else 0
def fb2 (n : Int) : Nat := if 64 < n ∧ n ≤ 128 then 2 ^ (128 - n).toNat else 0
theorem fb1_lt (n : Int) : fb1 n < 18446744073709551616 := by
  unfold fb1
  split
  · exact Nat.lt_of_le_of_lt (Nat.pow_le_pow_right (by decide) (show (64 - n).toNat ≤ 63 by omega)) (by decide)
  · decide
theorem fb2_lt (n : Int) : fb2 n < 18446744073709551616 := by
  unfold fb2
  split
  · exact Nat.lt_of_le_of_lt (Nat.pow_le_pow_right (by decide) (show (128 - n).toNat ≤ 63 by omega)) (by decide)
  · decide
/-- The set of some numbers. -/
def withAll : List Int → Nat × Nat → Nat × Nat
  | [], x => x
  | n :: m, x => withAll m (x.1 ||| fb1 n, x.2 ||| fb2 n)
/-! ### The bit map -/
def bitRaw (h l : Nat) : List UInt8 := if l = 0 then be8 h else be8 (9223372036854775808 + h) ++ be8 l
def bitPut (s : Int) (h l : Nat) : List UInt8 × Int :=
  if ¬ (s = 1 ∨ s = 2) ∨ 9223372036854775808 ≤ h then ([], 1) else (if s = 1 then hexPut (bitRaw h l) else bitRaw h l, 0)
def bitTake (s : Int) (l : List UInt8) (i : Nat) : List UInt8 × Nat × Int :=
  if s = 1 then (if l.length < i + 16 then (List.replicate 8 0, 0, 2) else if (hexGet ((l.drop i).take 16)).2.2 = true then ((hexGet ((l.drop i).take 16)).1, i + 16, 0) else (List.replicate 8 0, 0, 3))
  else (if l.length < i + 8 then (List.replicate 8 0, 0, 2) else ((l.drop i).take 8, i + 8, 0))
def bitGet (s : Int) (l : List UInt8) (a : Int) : (Nat × Nat) × Nat × Int :=
  if ¬ (s = 1 ∨ s = 2) ∨ a < 0 ∨ (l.length : Int) < a then ((0, 0), 0, 1)
  else if (bitTake s l a.toNat).2.2 ≠ 0 then ((0, 0), 0, (bitTake s l a.toNat).2.2)
  else if nat8 (bitTake s l a.toNat).1 < 9223372036854775808 then ((nat8 (bitTake s l a.toNat).1, 0), (bitTake s l a.toNat).2.1, 0)
  else if (bitTake s l (bitTake s l a.toNat).2.1).2.2 ≠ 0 then ((0, 0), 0, (bitTake s l (bitTake s l a.toNat).2.1).2.2)
  else if nat8 (bitTake s l (bitTake s l a.toNat).2.1).1 = 0 then ((0, 0), 0, 8)
  else ((nat8 (bitTake s l a.toNat).1 % 9223372036854775808, nat8 (bitTake s l (bitTake s l a.toNat).2.1).1), (bitTake s l (bitTake s l a.toNat).2.1).2.1, 0)
theorem hexGet_length {l m : List UInt8} (h : (hexGet l).2.2 = true) (hm : (hexGet l).1 = m) : hexPut m = l := by
  obtain ⟨r, n, b, e⟩ : ∃ r n b, hexGet l = (r, n, b) := ⟨(hexGet l).1, (hexGet l).2.1, (hexGet l).2.2, rfl⟩
  rw [e] at h hm
  obtain rfl : b = true := h
  obtain rfl : r = m := hm
  exact (hexGet_ok e).2
theorem bitTake_len (s : Int) (l : List UInt8) (i : Nat) : (bitTake s l i).1.length = 8 := by
  unfold bitTake
  split
  · split
    · rfl
    · split
      · rename_i h1 h2 h3
        have := congrArg List.length (hexGet_length h3 rfl)
        rw [hexPut_length, List.length_take, List.length_drop] at this
        dsimp only
        omega
      · rfl
  · split
    · rfl
    · rename_i h1 h2
      dsimp only
      rw [List.length_take, List.length_drop]; omega
end Go.Proofs.Ytkhmdcllookjkaa.Sp
