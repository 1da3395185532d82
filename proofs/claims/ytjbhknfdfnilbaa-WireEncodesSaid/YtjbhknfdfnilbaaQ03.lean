/- What the reference's Put on packed digits answers, by the print. -/
import Derived.Test.YtjbhknfdfnilbaaPx1
import Derived.RowKit
import Derived.Laws.Strings
/- Plain facts on byte strings as lists of bytes, on decimal digits and on rounds. -/
namespace Go.Proofs.Ytjbhknfdfnilbaa.Sq
open Go.RowKit Go.Proofs.YtjbhknfdfnilbaaW.PrintWords Go.Proofs.YtjbhknfdfnilbaaW.PrintLast Go.Proofs.YtjbhknfdfnilbaaW.PrintMore
set_option linter.unusedVariables false
set_option linter.unusedSimpArgs false

/-- A byte out of a number. -/
def u8 (n : Nat) : UInt8 := UInt8.ofNat n
/-- A string's bytes. -/
def bl (s : ByteArray) : List UInt8 := s.data.toList
/-- The string of some bytes. -/
def sb (l : List UInt8) : ByteArray := ⟨l.toArray⟩
theorem bl_sb (l : List UInt8) : bl (sb l) = l := rfl
theorem sb_bl (s : ByteArray) : sb (bl s) = s := rfl
theorem bl_inj {a b : ByteArray} (h : bl a = bl b) : a = b := by rw [← sb_bl a, ← sb_bl b, h]
theorem toList_bl (s : ByteArray) : s.toList = bl s := ByteArray.toList_eq ..
theorem toList_sb (l : List UInt8) : (sb l).toList = l := by rw [toList_bl, bl_sb]
theorem size_bl (s : ByteArray) : s.size = (bl s).length := by simp [bl]
theorem size_sb (l : List UInt8) : (sb l).size = l.length := by simp [sb, ByteArray.size]
theorem sb_append (a b : List UInt8) : sb a ++ sb b = sb (a ++ b) := by
  apply bl_inj
  show (sb a ++ sb b).data.toList = _
  rw [ByteArray.data_append]; simp [sb, bl]
theorem bl_append (a b : ByteArray) : bl (a ++ b) = bl a ++ bl b := by
  rw [← sb_bl a, ← sb_bl b, sb_append]; rfl
theorem bl_extract (s : ByteArray) (i j : Nat) : bl (s.extract i j) = ((bl s).take j).drop i := by
  show (s.extract i j).data.toList = _
  rw [ByteArray.data_extract]; simp [bl, List.extract_eq_take_drop, List.drop_take]
theorem sb_extract (l : List UInt8) (i j : Nat) : (sb l).extract i j = sb ((l.take j).drop i) := by
  apply bl_inj; rw [bl_extract]; rfl
theorem sb_inj {a b : List UInt8} (h : sb a = sb b) : a = b := by rw [← bl_sb a, ← bl_sb b, h]
theorem bt_bl (s : ByteArray) (i : Int) : bt s i = (((bl s)[i.toNat]?.getD 0).toNat : Int) := by
  unfold bt
  split
  · rename_i h
    have h' : i.toNat < (bl s).length := by rw [← size_bl]; exact h
    rw [List.getElem?_eq_getElem h']; rfl
  · rename_i h
    have h' : ¬ i.toNat < (bl s).length := by rw [← size_bl]; exact h
    rw [List.getElem?_eq_none (by omega)]; rfl
theorem bt_sb (l : List UInt8) (i : Nat) : bt (sb l) (i : Int) = ((l[i]?.getD 0).toNat : Int) := by
  rw [bt_bl, bl_sb]; simp
theorem strOfNums_sb (l : List Int) : strOfNums l = sb (l.map fun n => u8 n.toNat) := rfl
theorem strOne (n : Nat) : strOfNums [((n : Nat) : Int)] = sb [u8 n] := rfl
theorem empty_sb : (⟨#[]⟩ : ByteArray) = sb [] := rfl
theorem empty_sb' : ByteArray.empty = sb [] := rfl
theorem u8_of_nat (c : UInt8) : u8 c.toNat = c := by simp [u8]
theorem u8_toNat (n : Nat) (h : n < 256) : (u8 n).toNat = n := by simp [u8, UInt8.toNat_ofNat']; omega
theorem u8_lt (c : UInt8) : c.toNat < 256 := c.toNat_lt
theorem u8_ext {a b : UInt8} (h : a.toNat = b.toNat) : a = b := UInt8.toNat_inj.1 h
theorem wrap64_id {x : Int} (h : -9223372036854775808 ≤ x) (h2 : x ≤ 9223372036854775807) : wrap64 x = x := by unfold wrap64; omega
theorem wrap64_nat {n : Nat} (h : n ≤ 9223372036854775807) : wrap64 (n : Int) = n := wrap64_id (by omega) (by omega)
theorem wrap64_succ {n : Nat} (h : n < 9223372036854775807) : wrap64 ((n : Int) + 1) = ((n + 1 : Nat) : Int) := by rw [wrap64_id (by omega) (by omega)]; omega
theorem tdiv_nat (a b : Nat) : Int.tdiv (a : Int) (b : Int) = ((a / b : Nat) : Int) := by rw [Int.tdiv_eq_ediv_of_nonneg (by omega)]; rfl
theorem tmod_nat (a b : Nat) : Int.tmod (a : Int) (b : Int) = ((a % b : Nat) : Int) := by rw [Int.tmod_eq_emod_of_nonneg (by omega)]; rfl
/-- A string is the string of a list. -/
theorem ex_sb (s : ByteArray) : ∃ l, s = sb l := ⟨bl s, (sb_bl s).symm⟩

/-! Digits. -/
def dig (c : UInt8) : Bool := decide (48 ≤ c.toNat) && decide (c.toNat ≤ 57)
theorem dig_iff (c : UInt8) : dig c = true ↔ 48 ≤ c.toNat ∧ c.toNat ≤ 57 := by simp [dig]
theorem dig_not (c : UInt8) : dig c = false ↔ c.toNat < 48 ∨ 57 < c.toNat := by simp [dig]; omega
/-- The number that digits are. -/
def numFrom : Nat → List UInt8 → Nat
  | n, [] => n
  | n, c :: l => numFrom (10 * n + (c.toNat - 48)) l
def num (l : List UInt8) : Nat := numFrom 0 l
/-- A number's last w digits. -/
def digs : Nat → Nat → List UInt8
  | 0, _ => []
  | w + 1, n => digs w (n / 10) ++ [u8 (48 + n % 10)]
theorem digs_length : ∀ w n, (digs w n).length = w
  | 0, _ => rfl
  | w + 1, n => by simp [digs, digs_length w]
theorem dig_ofNat {d : Nat} (h : d < 10) : dig (u8 (48 + d)) = true := by
  rw [dig_iff, u8_toNat _ (by omega)]; omega
theorem digs_all : ∀ w n, (digs w n).all dig = true
  | 0, _ => rfl
  | w + 1, n => by rw [digs, List.all_append, digs_all w]; simp [dig_ofNat (Nat.mod_lt n (by decide : 0 < 10))]
theorem numFrom_append (l m : List UInt8) : ∀ n, numFrom n (l ++ m) = numFrom (numFrom n l) m := by
  induction l with
  | nil => intro n; rfl
  | cons c l ih => intro n; exact ih _
theorem num_snoc (l : List UInt8) (c : UInt8) : num (l ++ [c]) = 10 * num l + (c.toNat - 48) := numFrom_append l [c] 0
theorem pow_step (B p : Nat) : B * (p * 10) = 10 * B * p := by rw [Nat.mul_comm p 10, ← Nat.mul_assoc, Nat.mul_comm B 10]
theorem numFrom_lt : ∀ (l : List UInt8), l.all dig = true → ∀ n B, n < B → numFrom n l < B * 10 ^ l.length
  | [], _, n, B, hB => by rw [List.length_nil, Nat.pow_zero, Nat.mul_one]; exact hB
  | c :: l, h, n, B, hB => by
    rw [List.all_cons, Bool.and_eq_true] at h
    have hc := (dig_iff c).1 h.1
    have hs : 10 * n + (c.toNat - 48) < 10 * B := by omega
    have := numFrom_lt l h.2 (10 * n + (c.toNat - 48)) (10 * B) hs
    rw [List.length_cons, Nat.pow_succ, pow_step]
    exact this
theorem num_lt (l : List UInt8) (h : l.all dig = true) : num l < 10 ^ l.length := by
  have := numFrom_lt l h 0 1 (by decide)
  simpa [num] using this
theorem num_digs : ∀ w n, n < 10 ^ w → num (digs w n) = n
  | 0, n, h => by
    have : n = 0 := by simpa using h
    subst this; rfl
  | w + 1, n, h => by
    have hlt : n / 10 < 10 ^ w := by rw [Nat.pow_succ] at h; omega
    rw [digs, num_snoc, num_digs w _ hlt, u8_toNat _ (by omega)]
    omega
theorem snoc_cases (l : List UInt8) (w : Nat) (h : l.length = w + 1) : ∃ m c, l = m ++ [c] ∧ m.length = w := by
  have hne : l ≠ [] := by intro e; rw [e] at h; simp at h
  exact ⟨l.dropLast, l.getLast hne, (List.dropLast_concat_getLast hne).symm, by simp [h]⟩
theorem digs_num : ∀ w (l : List UInt8), l.length = w → l.all dig = true → digs w (num l) = l
  | 0, l, h, _ => by
    have : l = [] := List.eq_nil_of_length_eq_zero h
    subst this; rfl
  | w + 1, l, h, hd => by
    obtain ⟨m, c, rfl, hm⟩ := snoc_cases l w h
    rw [List.all_append, Bool.and_eq_true] at hd
    have hc := (dig_iff c).1 (by simpa using hd.2)
    have e1 : (10 * num m + (c.toNat - 48)) / 10 = num m := by omega
    have e2 : (10 * num m + (c.toNat - 48)) % 10 = c.toNat - 48 := by omega
    rw [digs, num_snoc, e1, e2, digs_num w m hm hd.1]
    congr 2
    apply u8_ext
    rw [u8_toNat _ (by omega)]; omega
end Go.Proofs.Ytjbhknfdfnilbaa.Sq
/- More plain facts: bytes as numbers. -/
namespace Go.Proofs.Ytjbhknfdfnilbaa.Sq
open Go.RowKit Go.Proofs.YtjbhknfdfnilbaaW.PrintWords
set_option linter.unusedVariables false
set_option linter.unusedSimpArgs false
/-- Bytes as numbers. -/
def ints (l : List UInt8) : List Int := l.map fun b => (b.toNat : Int)
theorem str_ints (l : List UInt8) : strOfNums (ints l) = sb l := by
  rw [strOfNums_sb, ints, List.map_map]
  congr 1
  conv => rhs; rw [← List.map_id l]
  apply List.map_congr_left
  intro a _
  show u8 ((a.toNat : Int)).toNat = a
  rw [Int.toNat_natCast, u8_of_nat]
theorem ints_snoc (l : List UInt8) (n : Nat) (h : n < 256) : ints l ++ [(n : Int)] = ints (l ++ [u8 n]) := by
  simp [ints, u8_toNat n h]
theorem ints_length (l : List UInt8) : (ints l).length = l.length := by simp [ints]
theorem ints_append (l m : List UInt8) : ints l ++ ints m = ints (l ++ m) := by simp [ints]
theorem ints_drop (l : List UInt8) (n : Nat) : (ints l).drop n = ints (l.drop n) := by simp [ints, List.map_drop]
theorem ints_two (l : List UInt8) (a b : Nat) (ha : a < 256) (hb : b < 256) : ints l ++ [(a : Int), (b : Int)] = ints (l ++ [u8 a, u8 b]) := by simp [ints, u8_toNat a ha, u8_toNat b hb]
theorem drop_cons {l m : List UInt8} {a : UInt8} {i : Nat} (h : l.drop i = a :: m) : ∃ hlt : i < l.length, l[i] = a ∧ l.drop (i + 1) = m := by
  have hlt : i < l.length := by
    rcases Nat.lt_or_ge i l.length with h' | h'
    · exact h'
    · rw [List.drop_of_length_le h'] at h; cases h
  rw [List.drop_eq_getElem_cons hlt] at h
  injection h with h1 h2
  exact ⟨hlt, h1, h2⟩
theorem bt_drop {l m : List UInt8} {a : UInt8} {i : Nat} (h : l.drop i = a :: m) : bt (sb l) (i : Int) = (a.toNat : Int) := by
  obtain ⟨hlt, ha, -⟩ := drop_cons h
  rw [bt_sb, List.getElem?_eq_getElem hlt, Option.getD_some, ha]
theorem len_drop {l m : List UInt8} {a : UInt8} {i : Nat} (h : l.drop i = a :: m) : i + (m.length + 1) = l.length := by
  have := congrArg List.length h
  rw [List.length_drop, List.length_cons] at this; omega
/-- The number that digits are, if these are not too many. -/
def getNum (l : List UInt8) : Int × Bool := if l.length < 1 ∨ 18 < l.length ∨ l.all dig = false then (0, false) else ((num l : Nat), true)
/-- A number by so many digits, if it can be. -/
def putNum (n w : Int) : ByteArray × Bool := if n < 0 ∨ w < 1 ∨ 18 < w ∨ ¬ n.toNat < 10 ^ w.toNat then (sb [], false) else (sb (digs w.toNat n.toNat), true)
theorem wrap_dig (m : Nat) (h : m < 10) : wrap64 (48 + (m : Int)) % 256 = ((48 + m : Nat) : Int) := by rw [wrap64_id (by omega) (by omega)]; omega
end Go.Proofs.Ytjbhknfdfnilbaa.Sq
/- Digits by halves of bytes, in plain words. -/
namespace Go.Proofs.Ytjbhknfdfnilbaa.Sq
open Go.RowKit Go.Proofs.YtjbhknfdfnilbaaW.PrintWords
set_option linter.unusedVariables false
set_option linter.unusedSimpArgs false
/-- Digits, two to a byte. -/
def pack : List UInt8 → List UInt8
  | a :: b :: m => u8 (16 * (a.toNat - 48) + (b.toNat - 48)) :: pack m
  | _ => []
def even0 (l : List UInt8) : List UInt8 := if l.length % 2 = 0 then l else u8 48 :: l
def bcdPut (l : List UInt8) : List UInt8 × Bool := if 999 < l.length ∨ l.all dig = false then ([], false) else (pack (even0 l), true)
theorem even0_len (l : List UInt8) : (even0 l).length % 2 = 0 ∧ (even0 l).length = 2 * ((l.length + 1) / 2) := by
  unfold even0; split
  · omega
  · rw [List.length_cons]; omega
theorem dig48 : dig (u8 48) = true := by decide
theorem even0_dig {l : List UInt8} (h : l.all dig = true) : (even0 l).all dig = true := by
  unfold even0; split
  · exact h
  · rw [List.all_cons, h]; decide
theorem pack_length : ∀ (l : List UInt8), l.length % 2 = 0 → 2 * (pack l).length = l.length
  | [], _ => rfl
  | [a], h => by simp at h
  | a :: b :: m, h => by
    have := pack_length m (by rw [List.length_cons, List.length_cons] at h; omega)
    rw [pack, List.length_cons, List.length_cons, List.length_cons]; omega
theorem pack_len {l : List UInt8} : (pack (even0 l)).length = (l.length + 1) / 2 := by
  have h := even0_len l
  have := pack_length _ h.1
  omega
/-- The digits in bytes, from place i on; o: those ahead. -/
def bcdFrom (odd : Bool) : Nat → List UInt8 → List UInt8 → List UInt8 × Int × Int
  | _, o, [] => (if odd = true then o.drop 1 else o, 0, 0)
  | i, o, c :: m => if i = 0 ∧ odd = true ∧ c.toNat / 16 ≠ 0 then ([], 4, 0) else if 9 < c.toNat / 16 ∨ 9 < c.toNat % 16 then ([], 3, (i : Int))
    else bcdFrom odd (i + 1) (o ++ [u8 (48 + c.toNat / 16), u8 (48 + c.toNat % 16)]) m
def bcdGet (b : List UInt8) (n : Int) : List UInt8 × Int × Int :=
  if n < 0 ∨ 999 < n then ([], 1, 0) else if b.length < (n.toNat + 1) / 2 then ([], 2, (b.length : Int)) else bcdFrom (decide (n.toNat % 2 = 1)) 0 [] (b.take ((n.toNat + 1) / 2))
theorem two_dig {a b : UInt8} (ha : dig a = true) (hb : dig b = true) : 16 * (a.toNat - 48) + (b.toNat - 48) < 256 ∧ (16 * (a.toNat - 48) + (b.toNat - 48)) / 16 = a.toNat - 48 ∧ (16 * (a.toNat - 48) + (b.toNat - 48)) % 16 = b.toNat - 48 ∧ 48 + (a.toNat - 48) = a.toNat ∧ 48 + (b.toNat - 48) = b.toNat ∧ a.toNat - 48 ≤ 9 ∧ b.toNat - 48 ≤ 9 := by
  have ha := (dig_iff a).1 ha
  have hb := (dig_iff b).1 hb
  omega
/-- What is packed is got: the whole, behind the first. -/
theorem bcdFrom_pack (odd : Bool) : ∀ (m : List UInt8) (i : Nat) (o : List UInt8), m.length % 2 = 0 → m.all dig = true → (i ≠ 0 ∨ odd = false ∨ ∀ a t, m = a :: t → a = u8 48) → bcdFrom odd i o (pack m) = (if odd = true then (o ++ m).drop 1 else o ++ m, 0, 0)
  | [], i, o, _, _, _ => by simp [pack, bcdFrom]
  | [a], i, o, h, _, _ => by simp at h
  | a :: b :: m, i, o, h, hd, hi => by
    simp only [List.all_cons, Bool.and_eq_true] at hd
    obtain ⟨h1, h2, h3, h4, h5, h6, h7⟩ := two_dig hd.1 hd.2.1
    have hm : m.length % 2 = 0 := by rw [List.length_cons, List.length_cons] at h; omega
    rw [pack, bcdFrom, u8_toNat _ h1, h2, h3, h4, h5, u8_of_nat, u8_of_nat]
    rw [if_neg, if_neg (by omega), bcdFrom_pack odd m (i + 1) _ hm hd.2.2 (.inl (by omega))]
    · simp
    · rintro ⟨e1, e2, e3⟩
      rcases hi with hi | hi | hi
      · exact hi e1
      · rw [hi] at e2; cases e2
      · have := hi a (b :: m) rfl
        subst this
        exact e3 (by decide)
theorem bcdGet_put (l more : List UInt8) (h9 : l.length ≤ 999) (hd : l.all dig = true) : bcdGet (pack (even0 l) ++ more) (l.length : Int) = (l, 0, 0) := by
  have h1 := even0_len l
  have h2 := @pack_len l
  unfold bcdGet
  rw [if_neg (by omega), Int.toNat_natCast, if_neg (by rw [List.length_append]; omega), List.take_left' h2]
  rw [bcdFrom_pack _ _ _ _ h1.1 (even0_dig hd)]
  · by_cases h : l.length % 2 = 1
    · rw [if_pos (by simp [h])]
      have : even0 l = u8 48 :: l := if_neg (by omega)
      rw [this]; simp
    · rw [if_neg (by simp [h])]
      have : even0 l = l := if_pos (by omega)
      rw [this]; simp
  · by_cases h : l.length % 2 = 1
    · right; right
      intro a t e
      have : even0 l = u8 48 :: l := if_neg (by omega)
      rw [this] at e; injection e with e _; exact e.symm
    · right; left; simp [h]
/-- What is got is packed as it was. -/
theorem bcdFrom_ok (odd : Bool) : ∀ (b : List UInt8) (i : Nat) (o r : List UInt8) (p : Int), o.length % 2 = 0 → o.all dig = true → bcdFrom odd i o b = (r, 0, p) →
    p = 0 ∧ ∃ m, r = (if odd = true then (o ++ m).drop 1 else o ++ m) ∧ m.all dig = true ∧ m.length = 2 * b.length ∧ pack m = b ∧ (i = 0 → odd = true → ∀ a t, m = a :: t → a = u8 48)
  | [], i, o, r, p, ho, hod, h => by
    simp only [bcdFrom, Prod.mk.injEq, true_and] at h
    exact ⟨h.2.symm, [], by simp [← h.1], rfl, rfl, rfl, fun _ _ _ _ e => by cases e⟩
  | c :: b, i, o, r, p, ho, hod, h => by
    rw [bcdFrom] at h
    by_cases h1 : i = 0 ∧ odd = true ∧ c.toNat / 16 ≠ 0
    · rw [if_pos h1] at h; simp at h
    · rw [if_neg h1] at h
      by_cases h2 : 9 < c.toNat / 16 ∨ 9 < c.toNat % 16
      · rw [if_pos h2] at h; simp at h
      · rw [if_neg h2] at h
        have d1 : dig (u8 (48 + c.toNat / 16)) = true := dig_ofNat (by omega)
        have d2 : dig (u8 (48 + c.toNat % 16)) = true := dig_ofNat (by omega)
        obtain ⟨hp, m, hr, hmd, hml, hmp, -⟩ := bcdFrom_ok odd b (i + 1) _ r p (by simp; omega) (by simp [List.all_append, hod, d1, d2]) h
        refine ⟨hp, u8 (48 + c.toNat / 16) :: u8 (48 + c.toNat % 16) :: m, by rw [hr]; simp, by simp [d1, d2, hmd], by simp [hml]; omega, ?_, ?_⟩
        · have hc := u8_lt c
          rw [pack, u8_toNat _ (by omega), u8_toNat _ (by omega), hmp, show 16 * (48 + c.toNat / 16 - 48) + (48 + c.toNat % 16 - 48) = c.toNat by omega, u8_of_nat]
        · intro hi hodd a t e
          injection e with e _
          have : c.toNat / 16 = 0 := by
            rcases Nat.eq_zero_or_pos (c.toNat / 16) with h | h
            · exact h
            · exact absurd ⟨hi, hodd, by omega⟩ h1
          rw [← e, this]
theorem bcdGet_ok {b r : List UInt8} {n p : Int} (h : bcdGet b n = (r, 0, p)) : p = 0 ∧ 0 ≤ n ∧ n ≤ 999 ∧ (n.toNat + 1) / 2 ≤ b.length ∧ r.length = n.toNat ∧ r.all dig = true ∧ pack (even0 r) = b.take ((n.toNat + 1) / 2) := by
  unfold bcdGet at h
  by_cases h1 : n < 0 ∨ 999 < n
  · rw [if_pos h1] at h; simp at h
  · rw [if_neg h1] at h
    by_cases h2 : b.length < (n.toNat + 1) / 2
    · rw [if_pos h2] at h; simp at h
    · rw [if_neg h2] at h
      obtain ⟨hp, m, hr, hmd, hml, hmp, h48⟩ := bcdFrom_ok _ _ 0 [] r p rfl rfl h
      rw [List.nil_append] at hr
      have hml' : m.length = 2 * ((n.toNat + 1) / 2) := by rw [hml, List.length_take]; omega
      by_cases ho : n.toNat % 2 = 1
      · rw [if_pos (by simp [ho])] at hr
        match m, hml', hmd, hmp, hr, h48 with
        | [], hml', _, _, _, _ => simp at hml'; omega
        | a :: t, hml', hmd, hmp, hr, h48 =>
          have ha := h48 rfl (by simp [ho]) a t rfl
          subst ha
          rw [List.drop_succ_cons, List.drop_zero] at hr
          subst hr
          rw [List.length_cons] at hml'
          refine ⟨hp, by omega, by omega, by omega, by omega, by simp [List.all_cons] at hmd; simpa using hmd.2, ?_⟩
          have : even0 r = u8 48 :: r := if_neg (by omega)
          rw [this]; exact hmp
      · rw [if_neg (by simp [ho])] at hr
        subst hr
        refine ⟨hp, by omega, by omega, by omega, by omega, hmd, ?_⟩
        have : even0 r = r := if_pos (by omega)
        rw [this]; exact hmp
theorem bcdFrom_no (odd : Bool) : ∀ (b : List UInt8) (i : Nat) (o : List UInt8), (bcdFrom odd i o b).2.1 ≠ 0 → (bcdFrom odd i o b).1 = [] ∧ ((bcdFrom odd i o b).2.1 = 3 ∨ (bcdFrom odd i o b).2.1 = 4)
  | [], i, o, h => by simp [bcdFrom] at h
  | c :: b, i, o, h => by
    rw [bcdFrom] at h ⊢
    by_cases h1 : i = 0 ∧ odd = true ∧ c.toNat / 16 ≠ 0
    · rw [if_pos h1]; simp
    · rw [if_neg h1] at h ⊢
      by_cases h2 : 9 < c.toNat / 16 ∨ 9 < c.toNat % 16
      · rw [if_pos h2]; simp
      · rw [if_neg h2] at h ⊢; exact bcdFrom_no odd b _ _ h
theorem bcdGet_no {b : List UInt8} {n : Int} (h : (bcdGet b n).2.1 ≠ 0) : (bcdGet b n).1 = [] := by
  unfold bcdGet at h ⊢
  split
  · rfl
  · rename_i h1
    rw [if_neg h1] at h
    split
    · rfl
    · rename_i h2
      rw [if_neg h2] at h
      exact (bcdFrom_no _ _ _ _ h).1
end Go.Proofs.Ytjbhknfdfnilbaa.Sq
/- What the reference's Digit and All answer. -/
namespace Go.Proofs.Ytjbhknfdfnilbaa.Sq
open Go.RowKit Go.Proofs.YtjbhknfdfnilbaaW.PrintWords Go.Proofs.YtjbhknfdfnilbaaW.PrintLast Go.Proofs.YtjbhknfdfnilbaaW.PrintMore Go.Proofs.Ytjbhknfdfnilbaa.P
set_option linter.unusedVariables false
set_option linter.unusedSimpArgs false
theorem ref01_Digit (c : UInt8) : groatref01_Digit.f (c.toNat : Int) = some (dig c) := by
  unfold groatref01_Digit.f
  by_cases h : 48 ≤ c.toNat
  · rw [if_pos (by omega)]
    have : decide ((c.toNat : Int) ≤ 57) = decide (c.toNat ≤ 57) := by rw [decide_eq_decide]; omega
    simp [dig, h, this]
  · rw [if_neg (by omega)]; simp [dig, h]
theorem ref01_All_l (l : List UInt8) (hl : l.length ≤ 140737488351232) : ∀ (d k i : Nat), i + d = l.length → d < k →
    groatref01_All.l0 k (sb l) (i : Int) = some ((l.drop i).all dig)
  | 0, k, i, hd, hk => by
    obtain ⟨k, rfl⟩ : ∃ m, k = m + 1 := ⟨k - 1, by omega⟩
    simp only [groatref01_All.l0]
    rw [if_neg (by rw [size_sb]; omega), List.drop_of_length_le (by omega)]; rfl
  | d + 1, k, i, hd, hk => by
    obtain ⟨k, rfl⟩ : ∃ m, k = m + 1 := ⟨k - 1, by omega⟩
    have hi : i < l.length := by omega
    simp only [groatref01_All.l0]
    rw [if_pos (by rw [size_sb]; omega), if_pos (by omega), bt_sb, List.getElem?_eq_getElem hi, Option.getD_some, ref01_Digit, Option.bind_some,
      List.drop_eq_getElem_cons hi, List.all_cons]
    cases h : dig l[i] with
    | true =>
      rw [if_pos rfl, wrap64_id (by omega) (by omega)]
      have := ref01_All_l l hl d k (i + 1) (by omega) (by omega)
      simpa using this
    | false => simp
theorem ref01_All (l : List UInt8) (hl : l.length ≤ 140737488351232) (k : Nat) (hk : l.length < k) : groatref01_All.f k (sb l) = some (l.all dig) := by
  have := ref01_All_l l hl l.length k 0 (by omega) hk
  simpa [groatref01_All.f] using this
end Go.Proofs.Ytjbhknfdfnilbaa.Sq
/- What the reference's Put on packed digits answers. -/
namespace Go.Proofs.Ytjbhknfdfnilbaa.Sq
open Go.RowKit Go.Proofs.YtjbhknfdfnilbaaW.PrintWords Go.Proofs.YtjbhknfdfnilbaaW.PrintLast Go.Proofs.YtjbhknfdfnilbaaW.PrintMore Go.Proofs.Ytjbhknfdfnilbaa.P
set_option linter.unusedVariables false
set_option linter.unusedSimpArgs false
theorem rp1 : ∀ a : Fin 10, (16 * ((((48 + a.val : Nat) : Int) - 48) % 256)) % 256 = ((16 * a.val : Nat) : Int) := by decide +kernel
theorem rp2 : ∀ a b : Fin 10, (((16 * a.val : Nat) : Int) + ((((48 + b.val : Nat) : Int) - 48) % 256)) % 256 = ((16 * a.val + b.val : Nat) : Int) := by decide +kernel
theorem rp_one {a : UInt8} (ha : dig a = true) : (16 * (((a.toNat : Int) - 48) % 256)) % 256 = ((16 * (a.toNat - 48) : Nat) : Int) := by
  have ha := (dig_iff a).1 ha
  have := rp1 ⟨a.toNat - 48, by omega⟩
  simp only at this
  rwa [show 48 + (a.toNat - 48) = a.toNat by omega] at this
theorem rp_two {n : Nat} {b : UInt8} (hn : n ≤ 9) (hb : dig b = true) : (((16 * n : Nat) : Int) + (((b.toNat : Int) - 48) % 256)) % 256 = ((16 * n + (b.toNat - 48) : Nat) : Int) := by
  have hb := (dig_iff b).1 hb
  have := rp2 ⟨n, by omega⟩ ⟨b.toNat - 48, by omega⟩
  simp only at this
  rwa [show 48 + (b.toNat - 48) = b.toNat by omega] at this
/-- The second half of a byte. -/
theorem ref03_half (l : List UInt8) (hl : l.length ≤ 2000) (m o : List UInt8) (n k i : Nat) (b : UInt8) (hm : l.drop i = b :: m) (hb : dig b = true) (hn : n ≤ 9) (ho : o.length ≤ 2000) :
    groatref03_Put.l0 (k + 1) (sb l) (ints (o ++ [u8 (16 * n)])) 1 (i : Int) = groatref03_Put.l0 k (sb l) (ints (o ++ [u8 (16 * n + (b.toNat - 48))])) 0 ((i + 1 : Nat) : Int) := by
  have hlb := len_drop hm
  have hb' := (dig_iff b).1 hb
  have b0 : (i : Int) < (l.length : Int) := by omega
  have b1 : 0 ≤ (i : Int) := by omega
  have b2 : i < 9223372036854775807 := by omega
  have c0 : ((o.length + 1 : Nat) : Int) - 1 = (o.length : Int) := by omega
  have c1 : -9223372036854775808 ≤ (o.length : Int) := by omega
  have c2 : (o.length : Int) ≤ 9223372036854775807 := by omega
  have c3 : 0 ≤ (o.length : Int) := by omega
  have c4 : (o.length : Int) < ((o.length + 1 : Nat) : Int) := by omega
  have hlen : (ints (o ++ [u8 (16 * n)])).length = o.length + 1 := by rw [ints_length, List.length_append]; rfl
  have hrd : rd (ints (o ++ [u8 (16 * n)])) (o.length : Int) = ((16 * n : Nat) : Int) := by
    unfold rd ints
    rw [Int.toNat_natCast, List.map_append, List.getD_eq_getElem?_getD, List.getElem?_append_right (by simp)]
    simp [u8_toNat (16 * n) (by omega)]
  have hset : (ints (o ++ [u8 (16 * n)])).set o.length ((16 * n + (b.toNat - 48) : Nat) : Int) = ints (o ++ [u8 (16 * n + (b.toNat - 48))]) := by
    unfold ints
    rw [List.map_append, List.map_append, List.set_append_right _ _ (by simp)]
    simp [u8_toNat (16 * n + (b.toNat - 48)) (by omega)]
  have w0 : wrap64 (1 - 1) = 0 := wrap64_id (by omega) (by omega)
  rw [groatref03_Put.l0, if_pos (by rw [size_sb]; exact b0), if_pos b1, if_neg (by decide), hlen, c0, wrap64_id c1 c2, if_pos c3, if_pos c4, hrd, bt_drop hm, rp_two hn hb, Int.toNat_natCast, hset, w0, wrap64_succ b2]
theorem ref03_Put_l (l : List UInt8) (hl : l.length ≤ 2000) (hd : l.all dig = true) : ∀ (m o : List UInt8) (k i : Nat), l.drop i = m → i + m.length = l.length → m.length % 2 = 0 → o.length ≤ i + 1 → m.length < k →
    groatref03_Put.l0 k (sb l) (ints o) 0 (i : Int) = some (sb (o ++ pack m), true)
  | [], o, k, i, hm, hi, h2, ho, hk => by
    obtain ⟨k, rfl⟩ : ∃ m, k = m + 1 := ⟨k - 1, by omega⟩
    have hi' : i = l.length := by simpa using hi
    simp only [groatref03_Put.l0]
    rw [if_neg (by rw [size_sb]; omega), str_ints]; simp [pack]
  | [a], o, k, i, hm, hi, h2, ho, hk => by simp at h2
  | a :: b :: m, o, k, i, hm, hi, h2, ho, hk => by
    obtain ⟨k, rfl⟩ : ∃ m, k = m + 2 := ⟨k - 2, by rw [List.length_cons, List.length_cons] at hk; omega⟩
    obtain ⟨hlt, ha, hm1⟩ := drop_cons hm
    obtain ⟨hlt1, hb, hm2⟩ := drop_cons hm1
    have da : dig a = true := by rw [← ha]; exact List.all_eq_true.1 hd _ (List.getElem_mem hlt)
    have db : dig b = true := by rw [← hb]; exact List.all_eq_true.1 hd _ (List.getElem_mem hlt1)
    have hl3 : m.length + 2 = (a :: b :: m).length := rfl
    have da' := (dig_iff a).1 da
    have b0 : (i : Int) < (l.length : Int) := by omega
    have b1 : 0 ≤ (i : Int) := by omega
    have b2 : i < 9223372036854775807 := by omega
    have b6 : o.length < 140737488355328 := by omega
    have b7 : 16 * (a.toNat - 48) < 256 := by omega
    have b8 : o.length ≤ 2000 := by omega
    have b9 : a.toNat - 48 ≤ 9 := by omega
    have hm4 : m.length % 2 = 0 := by omega
    have hi2 : i + 2 + m.length = l.length := by omega
    have ho2 : o.length + 1 ≤ i + 2 + 1 := by omega
    have hk2 : m.length < k := by omega
    have w1 : wrap64 (1 - 0) = 1 := wrap64_id (by omega) (by omega)
    show groatref03_Put.l0 (k + 1 + 1) _ _ _ _ = _
    rw [groatref03_Put.l0, if_pos (by rw [size_sb]; exact b0), if_pos b1, if_pos rfl, ints_length, if_pos b6, bt_drop hm, rp_one da, ints_snoc o _ b7, w1, wrap64_succ b2, ref03_half l hl m o _ k (i + 1) b hm1 db b9 b8]
    have := ref03_Put_l l hl hd m (o ++ [u8 (16 * (a.toNat - 48) + (b.toNat - 48))]) k (i + 2) hm2 hi2 hm4 (by rw [List.length_append]; exact ho2) hk2
    rw [this, pack]; simp
theorem ref03_Put (l : List UInt8) (hl : l.length ≤ 140737488351232) (k : Nat) (hk : l.length + 1010 < k) : groatref03_Put.f k (sb l) = some (sb (bcdPut l).1, (bcdPut l).2) := by
  obtain ⟨k, rfl⟩ : ∃ m, k = m + 3 := ⟨k - 3, by omega⟩
  unfold groatref03_Put.f bcdPut
  by_cases h1 : 999 < l.length
  · rw [if_pos (by rw [size_sb]; omega), if_pos (.inl h1)]; simp [groatref03_Put.j0, empty_sb]
  · rw [if_neg (by rw [size_sb]; omega), ref01_All l hl _ (by omega), Option.bind_some]
    cases hd : l.all dig with
    | false => rw [if_pos (.inr rfl)]; simp [groatref03_Put.j0, empty_sb]
    | true =>
      rw [if_neg (by simp; omega)]
      show groatref03_Put.j0 (k + 1 + 1 + 1) _ _ = _
      rw [groatref03_Put.j0]
      simp only [Bool.not_true, Bool.false_eq_true, if_false, Option.bind_some]
      rw [size_sb]
      by_cases h2 : l.length % 2 = 0
      · have e : even0 l = l := if_pos h2
        have e2 : ((l.length : Nat) : Int) % 2 = 0 := by omega
        rw [if_neg (by omega), groatref03_Put.j1, e, e2]
        exact ref03_Put_l l (by omega) hd l [] (k + 1) 0 rfl (by simp) h2 (Nat.zero_le _) (by omega)
      · have e : even0 l = u8 48 :: l := if_neg h2
        have e2 : ((l.length : Nat) : Int) % 2 = 1 := by omega
        rw [if_pos (by omega), if_pos (by simp), groatref03_Put.j1, e, e2]
        match l, hd, h2, h1, hk with
        | [], _, h2, _, _ => simp at h2
        | b :: m, hd, h2, h1, hk =>
          rw [List.all_cons, Bool.and_eq_true] at hd
          rw [List.length_cons] at h2 h1 hk
          have hall : (b :: m).all dig = true := by rw [List.all_cons, hd.1, hd.2]; rfl
          have hlen : (b :: m).length ≤ 2000 := by rw [List.length_cons]; omega
          have h3 := ref03_half (b :: m) hlen m [] 0 k 0 b rfl hd.1 (by omega) (by simp)
          have h4 := ref03_Put_l (b :: m) hlen hall m [u8 (b.toNat - 48)] k 1 rfl (by rw [List.length_cons]; omega) (by omega) (by simp) (by omega)
          have e3 : (([] : List Int) ++ [0]) = ints (([] : List UInt8) ++ [u8 (16 * 0)]) := by decide
          rw [e3]
          refine h3.trans ?_
          rw [show (([] : List UInt8) ++ [u8 (16 * 0 + (b.toNat - 48))]) = [u8 (b.toNat - 48)] by simp]
          refine h4.trans ?_
          rw [pack, u8_toNat 48 (by decide)]; simp
end Go.Proofs.Ytjbhknfdfnilbaa.Sq
