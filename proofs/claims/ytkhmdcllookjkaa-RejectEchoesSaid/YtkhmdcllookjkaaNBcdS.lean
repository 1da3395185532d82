/- Digits by halves of bytes, in plain words. -/
import Derived.Test.YtkhmdcllookjkaaNga
namespace Go.Proofs.Ytkhmdcllookjkaa.Sp
open Go Go.RowKit
set_option linter.unusedVariables false
set_option linter.unusedSimpArgs false
/-- Digits, two to a byte. -/
def pack : List UInt8 → List UInt8
  | a :: b :: m => u8 (16 * (a.toNat - 48) + (b.toNat - 48)) :: pack m
  | _ => []
def even0 (l : List UInt8) : List UInt8 := if l.length % 2 = 0 then l else u8 48 :: l
def bcdPut (l : List UInt8) : List UInt8 × Bool := if 999 < l.length ∨ l.all dig = false then ([], false) else (pack (even0 l), true)
theorem even0_len (l : List UInt8) : (even0 l).length % 2 = 0 ∧ (even0 l).length = 2 * ((l.length + 1) / 2) := by
  unfold even0; split
  · omega
  · rw [List.length_cons]; omega
theorem dig48 : dig (u8 48) = true := by decide
theorem even0_dig {l : List UInt8} (h : l.all dig = true) : (even0 l).all dig = true := by
  unfold even0; split
  · exact h
  · rw [List.all_cons, h]; decide
theorem pack_length : ∀ (l : List UInt8), l.length % 2 = 0 → 2 * (pack l).length = l.length
  | [], _ => rfl
  | [a], h => by simp at h
  | a :: b :: m, h => by
    have := pack_length m (by rw [List.length_cons, List.length_cons] at h; omega)
    rw [pack, List.length_cons, List.length_cons, List.length_cons]; omega
theorem pack_len {l : List UInt8} : (pack (even0 l)).length = (l.length + 1) / 2 := by
  have h := even0_len l
  have := pack_length _ h.1
  omega
/-- The digits in bytes, from place i on; o: those ahead. -/
def bcdFrom (odd : Bool) : Nat → List UInt8 → List UInt8 → List UInt8 × Int × Int
  | _, o, [] => (if odd = true then o.drop 1 else o, 0, 0)
  | i, o, c :: m => if i = 0 ∧ odd = true ∧ c.toNat / 16 ≠ 0 then ([], 4, 0) else if 9 < c.toNat / 16 ∨ 9 < c.toNat % 16 then ([], 3, (i : Int))
    else bcdFrom odd (i + 1) (o ++ [u8 (48 + c.toNat / 16), u8 (48 + c.toNat % 16)]) m
def bcdGet (b : List UInt8) (n : Int) : List UInt8 × Int × Int :=
  if n < 0 ∨ 999 < n then ([], 1, 0) else if b.length < (n.toNat + 1) / 2 then ([], 2, (b.length : Int)) else bcdFrom (decide (n.toNat % 2 = 1)) 0 [] (b.take ((n.toNat + 1) / 2))
theorem two_dig {a b : UInt8} (ha : dig a = true) (hb : dig b = true) : 16 * (a.toNat - 48) + (b.toNat - 48) < 256 ∧ (16 * (a.toNat - 48) + (b.toNat - 48)) / 16 = a.toNat - 48 ∧ (16 * (a.toNat - 48) + (b.toNat - 48)) % 16 = b.toNat - 48 ∧ 48 + (a.toNat - 48) = a.toNat ∧ 48 + (b.toNat - 48) = b.toNat ∧ a.toNat - 48 ≤ 9 ∧ b.toNat - 48 ≤ 9 := by
  have ha := (dig_iff a).1 ha
  have hb := (dig_iff b).1 hb
  omega
/-- What is packed is got: the whole, behind the first. -/
theorem bcdFrom_pack (odd : Bool) : ∀ (m : List UInt8) (i : Nat) (o : List UInt8), m.length % 2 = 0 → m.all dig = true → (i ≠ 0 ∨ odd = false ∨ ∀ a t, m = a :: t → a = u8 48) → bcdFrom odd i o (pack m) = (if odd = true then (o ++ m).drop 1 else o ++ m, 0, 0)
  | [], i, o, _, _, _ => by simp [pack, bcdFrom]
  | [a], i, o, h, _, _ => by simp at h
  | a :: b :: m, i, o, h, hd, hi => by
    simp only [List.all_cons, Bool.and_eq_true] at hd
    obtain ⟨h1, h2, h3, h4, h5, h6, h7⟩ := two_dig hd.1 hd.2.1
    have hm : m.length % 2 = 0 := by rw [List.length_cons, List.length_cons] at h; omega
    rw [pack, bcdFrom, u8_toNat _ h1, h2, h3, h4, h5, u8_of_nat, u8_of_nat]
    rw [if_neg, if_neg (by omega), bcdFrom_pack odd m (i + 1) _ hm hd.2.2 (.inl (by omega))]
    · simp
    · rintro ⟨e1, e2, e3⟩
      rcases hi with hi | hi | hi
      · exact hi e1
      · rw [hi] at e2; cases e2
      · have := hi a (b :: m) rfl
        subst this
        exact e3 (by decide)
theorem bcdGet_put (l more : List UInt8) (h9 : l.length ≤ 999) (hd : l.all dig = true) : bcdGet (pack (even0 l) ++ more) (l.length : Int) = (l, 0, 0) := by
  have h1 := even0_len l
  have h2 := @pack_len l
  unfold bcdGet
  rw [if_neg (by omega), Int.toNat_natCast, if_neg (by rw [List.length_append]; omega), List.take_left' h2]
  rw [bcdFrom_pack _ _ _ _ h1.1 (even0_dig hd)]
  · by_cases h : l.length % 2 = 1
    · rw [if_pos (by simp [h])]
      have : even0 l = u8 48 :: l := if_neg (by omega)
      rw [this]; simp
    · rw [if_neg (by simp [h])]
      have : even0 l = l := if_pos (by omega)
      rw [this]; simp
  · by_cases h : l.length % 2 = 1
    · right; right
      intro a t e
      have : even0 l = u8 48 :: l := if_neg (by omega)
      rw [this] at e; injection e with e _; exact e.symm
    · right; left; simp [h]
/-- What is got is packed as it was. -/
theorem bcdFrom_ok (odd : Bool) : ∀ (b : List UInt8) (i : Nat) (o r : List UInt8) (p : Int), o.length % 2 = 0 → o.all dig = true → bcdFrom odd i o b = (r, 0, p) →
    p = 0 ∧ ∃ m, r = (if odd = true then (o ++ m).drop 1 else o ++ m) ∧ m.all dig = true ∧ m.length = 2 * b.length ∧ pack m = b ∧ (i = 0 → odd = true → ∀ a t, m = a :: t → a = u8 48)
  | [], i, o, r, p, ho, hod, h => by
    simp only [bcdFrom, Prod.mk.injEq, true_and] at h
    exact ⟨h.2.symm, [], by simp [← h.1], rfl, rfl, rfl, fun _ _ _ _ e => by cases e⟩
  | c :: b, i, o, r, p, ho, hod, h => by
    rw [bcdFrom] at h
    by_cases h1 : i = 0 ∧ odd = true ∧ c.toNat / 16 ≠ 0
    · rw [if_pos h1] at h; simp at h
    · rw [if_neg h1] at h
      by_cases h2 : 9 < c.toNat / 16 ∨ 9 < c.toNat % 16
      · rw [if_pos h2] at h; simp at h
      · rw [if_neg h2] at h
        have d1 : dig (u8 (48 + c.toNat / 16)) = true := dig_ofNat (by omega)
        have d2 : dig (u8 (48 + c.toNat % 16)) = true := dig_ofNat (by omega)
        obtain ⟨hp, m, hr, hmd, hml, hmp, -⟩ := bcdFrom_ok odd b (i + 1) _ r p (by simp; omega) (by simp [List.all_append, hod, d1, d2]) h
        refine ⟨hp, u8 (48 + c.toNat / 16) :: u8 (48 + c.toNat % 16) :: m, by rw [hr]; simp, by simp [d1, d2, hmd], by simp [hml]; omega, ?_, ?_⟩
        · have hc := u8_lt c
          rw [pack, u8_toNat _ (by omega), u8_toNat _ (by omega), hmp, show 16 * (48 + c.toNat / 16 - 48) + (48 + c.toNat % 16 - 48) = c.toNat by omega, u8_of_nat]
        · intro hi hodd a t e
          injection e with e _
          have : c.toNat / 16 = 0 := by
            rcases Nat.eq_zero_or_pos (c.toNat / 16) with h | h
            · exact h
            · exact absurd ⟨hi, hodd, by omega⟩ h1
          rw [← e, this]
theorem bcdGet_ok {b r : List UInt8} {n p : Int} (h : bcdGet b n = (r, 0, p)) : p = 0 ∧ 0 ≤ n ∧ n ≤ 999 ∧ (n.toNat + 1) / 2 ≤ b.length ∧ r.length = n.toNat ∧ r.all dig = true ∧ pack (even0 r) = b.take ((n.toNat + 1) / 2) := by
  unfold bcdGet at h
  by_cases h1 : n < 0 ∨ 999 < n
  · rw [if_pos h1] at h; simp at h
  · rw [if_neg h1] at h
    by_cases h2 : b.length < (n.toNat + 1) / 2
    · rw [if_pos h2] at h; simp at h
    · rw [if_neg h2] at h
      obtain ⟨hp, m, hr, hmd, hml, hmp, h48⟩ := bcdFrom_ok _ _ 0 [] r p rfl rfl h
      rw [List.nil_append] at hr
      have hml' : m.length = 2 * ((n.toNat + 1) / 2) := by rw [hml, List.length_take]; omega
      by_cases ho : n.toNat % 2 = 1
      · rw [if_pos (by simp [ho])] at hr
        match m, hml', hmd, hmp, hr, h48 with
        | [], hml', _, _, _, _ => simp at hml'; omega
        | a :: t, hml', hmd, hmp, hr, h48 =>
          have ha := h48 rfl (by simp [ho]) a t rfl
          subst ha
          rw [List.drop_succ_cons, List.drop_zero] at hr
          subst hr
          rw [List.length_cons] at hml'
          refine ⟨hp, by omega, by omega, by omega, by omega, by simp [List.all_cons] at hmd; simpa using hmd.2, ?_⟩
          have : even0 r = u8 48 :: r := if_neg (by omega)
          rw [this]; exact hmp
      · rw [if_neg (by simp [ho])] at hr
        subst hr
        refine ⟨hp, by omega, by omega, by omega, by omega, hmd, ?_⟩
        have : even0 r = r := if_pos (by omega)
        rw [this]; exact hmp
theorem bcdFrom_no (odd : Bool) : ∀ (b : List UInt8) (i : Nat) (o : List UInt8), (bcdFrom odd i o b).2.1 ≠ 0 → (bcdFrom odd i o b).1 = [] ∧ ((bcdFrom odd i o b).2.1 = 3 ∨ (bcdFrom odd i o b).2.1 = 4)
  | [], i, o, h => by simp [bcdFrom] at h
  | c :: b, i, o, h => by
    rw [bcdFrom] at h ⊢
    by_cases h1 : i = 0 ∧ odd = true ∧ c.toNat / 16 ≠ 0
    · rw [if_pos h1]; simp
    · rw [if_neg h1] at h ⊢
      by_cases h2 : 9 < c.toNat / 16 ∨ 9 < c.toNat % 16
      · rw [if_pos h2]; simp
      · rw [if_neg h2] at h ⊢; exact bcdFrom_no odd b _ _ h
theorem bcdGet_no {b : List UInt8} {n : Int} (h : (bcdGet b n).2.1 ≠ 0) : (bcdGet b n).1 = [] := by
  unfold bcdGet at h ⊢
  split
  · rfl
  · rename_i h1
    rw [if_neg h1] at h
    split
    · rfl
    · rename_i h2
      rw [if_neg h2] at h
      exact (bcdFrom_no _ _ _ _ h).1
end Go.Proofs.Ytkhmdcllookjkaa.Sp
