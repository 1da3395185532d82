import Derived.Test.YtkaihbkfobiejaaGreatDoorNga
/- Digits of sixteen, in plain words. -/
namespace Go.Proofs.YtkaihbkfobiejaaGreatDoor.Sp
open Go Go.RowKit
set_option linter.unusedVariables false
set_option linter.unusedSimpArgs false
/-- Is a byte a digit of sixteen? -/
def hexOk (x : UInt8) : Bool := decide (48 ≤ x.toNat ∧ x.toNat ≤ 57) || decide (65 ≤ x.toNat ∧ x.toNat ≤ 70)
/-- What it is worth. -/
def hexV (x : UInt8) : Nat := if x.toNat ≤ 57 then x.toNat - 48 else x.toNat - 55
/-- The digit of a worth. -/
def hexD (n : Nat) : UInt8 := if n < 10 then u8 (48 + n) else u8 (55 + n)
theorem hexV_lt {x : UInt8} (h : hexOk x = true) : hexV x < 16 := by
  simp only [hexOk, Bool.or_eq_true, decide_eq_true_eq] at h
  unfold hexV; split <;> omega
theorem hexD_ok {n : Nat} (h : n < 16) : hexOk (hexD n) = true := by
  unfold hexD hexOk
  split
  · rw [u8_toNat _ (by omega)]; simp; omega
  · rw [u8_toNat _ (by omega)]; simp; omega
theorem hexV_D {n : Nat} (h : n < 16) : hexV (hexD n) = n := by
  unfold hexD hexV
  split
  · rw [u8_toNat _ (by omega)]; split <;> omega
  · rw [u8_toNat _ (by omega)]; split <;> omega
theorem hexD_V {x : UInt8} (h : hexOk x = true) : hexD (hexV x) = x := by
  simp only [hexOk, Bool.or_eq_true, decide_eq_true_eq] at h
  apply u8_ext
  unfold hexD hexV
  split
  · split
    · rw [u8_toNat _ (by omega)]; omega
    · rw [u8_toNat _ (by omega)]; omega
  · split
    · rw [u8_toNat _ (by omega)]; omega
    · rw [u8_toNat _ (by omega)]; omega
/-- Bytes by two digits each. -/
def hexPut : List UInt8 → List UInt8
  | [] => []
  | x :: l => hexD (x.toNat / 16) :: hexD (x.toNat % 16) :: hexPut l
theorem hexPut_length : ∀ l, (hexPut l).length = 2 * l.length
  | [] => rfl
  | x :: l => by rw [hexPut, List.length_cons, List.length_cons, hexPut_length l, List.length_cons]; omega
theorem hexPut_append : ∀ l m, hexPut (l ++ m) = hexPut l ++ hexPut m
  | [], _ => rfl
  | x :: l, m => by rw [List.cons_append, hexPut, hexPut, hexPut_append l m]; rfl
/-- The bytes that digits are, those behind place i; o: what was got ahead of it. -/
def hexFrom : Nat → List UInt8 → List UInt8 → List UInt8 × Int × Bool
  | _, o, [] => (o, 0, true)
  | i, _, [a] => if hexOk a = true then ([], ((i + 1 : Nat) : Int), false) else ([], (i : Int), false)
  | i, o, a :: b :: m => if hexOk a = true then (if hexOk b = true then hexFrom (i + 2) (o ++ [u8 (16 * hexV a + hexV b)]) m else ([], ((i + 1 : Nat) : Int), false)) else ([], (i : Int), false)
def hexGet (l : List UInt8) : List UInt8 × Int × Bool := hexFrom 0 [] l
theorem hexFrom_put : ∀ (l o : List UInt8) (i : Nat), hexFrom i o (hexPut l) = (o ++ l, 0, true)
  | [], o, i => by simp [hexPut, hexFrom]
  | x :: l, o, i => by
    have hx := u8_lt x
    have h1 : x.toNat / 16 < 16 := by omega
    have h2 : x.toNat % 16 < 16 := by omega
    rw [hexPut, hexFrom, if_pos (hexD_ok h1), if_pos (hexD_ok h2), hexV_D h1, hexV_D h2, hexFrom_put l]
    have e : u8 (16 * (x.toNat / 16) + x.toNat % 16) = x := by
      rw [show 16 * (x.toNat / 16) + x.toNat % 16 = x.toNat by omega, u8_of_nat]
    rw [e]; simp
theorem hexGet_put (l : List UInt8) : hexGet (hexPut l) = (l, 0, true) := by
  have := hexFrom_put l [] 0
  simpa [hexGet] using this
/-- Where digits are got they are those of what was got. -/
theorem hexFrom_ok : ∀ (l o : List UInt8) (i : Nat) (r : List UInt8) (n : Int), hexFrom i o l = (r, n, true) → n = 0 ∧ ∃ m, r = o ++ m ∧ hexPut m = l
  | [], o, i, r, n, h => by
    simp only [hexFrom, Prod.mk.injEq, and_true] at h
    exact ⟨h.2.symm, [], by simp [h.1], rfl⟩
  | [a], o, i, r, n, h => by
    simp only [hexFrom] at h
    split at h <;> simp at h
  | a :: b :: m, o, i, r, n, h => by
    rw [hexFrom] at h
    by_cases ha : hexOk a = true
    · rw [if_pos ha] at h
      by_cases hb : hexOk b = true
      · rw [if_pos hb] at h
        obtain ⟨h0, m', hr, hm⟩ := hexFrom_ok m _ _ r n h
        refine ⟨h0, u8 (16 * hexV a + hexV b) :: m', by rw [hr]; simp, ?_⟩
        have h1 := hexV_lt ha
        have h2 := hexV_lt hb
        rw [hexPut, u8_toNat _ (by omega), show (16 * hexV a + hexV b) / 16 = hexV a by omega, show (16 * hexV a + hexV b) % 16 = hexV b by omega, hexD_V ha, hexD_V hb, hm]
      · rw [if_neg hb] at h; simp at h
    · rw [if_neg ha] at h; simp at h
theorem hexGet_ok {l r : List UInt8} {n : Int} (h : hexGet l = (r, n, true)) : n = 0 ∧ hexPut r = l := by
  obtain ⟨h0, m, hr, hm⟩ := hexFrom_ok l [] 0 r n h
  rw [List.nil_append] at hr
  subst hr
  exact ⟨h0, hm⟩
theorem hexFrom_no : ∀ (l o : List UInt8) (i : Nat), (hexFrom i o l).2.2 = false → (hexFrom i o l).1 = [] ∧ (i : Int) ≤ (hexFrom i o l).2.1 ∧ (hexFrom i o l).2.1 ≤ ((i + l.length : Nat) : Int)
  | [], o, i, h => by simp [hexFrom] at h
  | [a], o, i, h => by
    rw [hexFrom]; split
    · exact ⟨rfl, by show (i : Int) ≤ ((i + 1 : Nat) : Int); omega, by show ((i + 1 : Nat) : Int) ≤ ((i + 1 : Nat) : Int); omega⟩
    · exact ⟨rfl, by show (i : Int) ≤ (i : Int); omega, by show (i : Int) ≤ ((i + 1 : Nat) : Int); omega⟩
  | a :: b :: m, o, i, h => by
    rw [hexFrom] at h ⊢
    by_cases ha : hexOk a = true
    · rw [if_pos ha] at h ⊢
      by_cases hb : hexOk b = true
      · rw [if_pos hb] at h ⊢
        have := hexFrom_no m _ _ h
        refine ⟨this.1, by omega, ?_⟩
        rw [List.length_cons, List.length_cons]; omega
      · rw [if_neg hb]
        refine ⟨rfl, by show (i : Int) ≤ ((i + 1 : Nat) : Int); omega, ?_⟩
        rw [List.length_cons, List.length_cons]; show ((i + 1 : Nat) : Int) ≤ _; omega
    · rw [if_neg ha]
      exact ⟨rfl, by show (i : Int) ≤ (i : Int); omega, by show (i : Int) ≤ _; omega⟩
theorem hexGet_no {l : List UInt8} (h : (hexGet l).2.2 = false) : (hexGet l).1 = [] ∧ 0 ≤ (hexGet l).2.1 ∧ (hexGet l).2.1 ≤ (l.length : Int) := by
  have := hexFrom_no l [] 0 h
  unfold hexGet
  exact ⟨this.1, this.2.1, by have := this.2.2; omega⟩
end Go.Proofs.YtkaihbkfobiejaaGreatDoor.Sp

/- What the program's functions on digits of sixteen answer. -/
namespace Go.Proofs.YtkaihbkfobiejaaGreatDoor.Sp
open Go Go.RowKit
set_option linter.unusedVariables false
set_option linter.unusedSimpArgs false
def hexP (x : UInt8) : Int × Bool := if hexOk x = true then (((hexV x : Nat) : Int), true) else (0, false)
theorem hexP_pos {x : UInt8} (h : hexOk x = true) : hexP x = (((hexV x : Nat) : Int), true) := if_pos h
theorem hexP_neg {x : UInt8} (h : ¬ hexOk x = true) : hexP x = (0, false) := if_neg h
theorem or256 : ∀ a b : Fin 16, (Go.bits .or .i64 (wrap64 (((a.val : Nat) : Int) * 16)) ((b.val : Nat) : Int)) % 256 = ((16 * a.val + b.val : Nat) : Int) := by decide +kernel
end Go.Proofs.YtkaihbkfobiejaaGreatDoor.Sp

/- What the program's and the reference's functions on classes answer. -/
namespace Go.Proofs.YtkaihbkfobiejaaGreatDoor.Sp
open Go Go.RowKit
set_option linter.unusedVariables false
set_option linter.unusedSimpArgs false
def ofN (n : Int) : Int := if 48 ≤ n ∧ n ≤ 57 then 1 else if (65 ≤ n ∧ n ≤ 90) ∨ (97 ≤ n ∧ n ≤ 122) then 2 else if 32 ≤ n ∧ n ≤ 126 then 4 else 8
def setsC (c : Int) : Int := if c = 1 then 1 else if c = 2 then 2 else if c = 3 then 3 else if c = 4 then 7 else if c = 5 then 15 else if c = 6 then 15 else 0
/-- Is a byte of a class? -/
def inN (c : Int) (n : Int) : Bool :=
  if c = 1 then decide (48 ≤ n ∧ n ≤ 57) else if c = 2 then decide ((65 ≤ n ∧ n ≤ 90) ∨ (97 ≤ n ∧ n ≤ 122))
  else if c = 3 then decide (48 ≤ n ∧ n ≤ 57) || decide ((65 ≤ n ∧ n ≤ 90) ∨ (97 ≤ n ∧ n ≤ 122)) else if c = 4 then decide (32 ≤ n ∧ n ≤ 126) else decide (c = 5 ∨ c = 6)
def inC (c : Int) (x : UInt8) : Bool := inN c x.toNat
theorem known_iff (c : Int) : (setsC c != 0) = decide (1 ≤ c ∧ c ≤ 6) := by
  unfold setsC
  repeat' split
  all_goals first | (subst_vars; rfl) | (symm; simp; omega)
theorem out_class {c : Int} (h : ¬ (1 ≤ c ∧ c ≤ 6)) : c ≠ 1 ∧ c ≠ 2 ∧ c ≠ 3 ∧ c ≠ 4 ∧ c ≠ 5 ∧ c ≠ 6 := by omega
theorem in_class {c : Int} (h : 1 ≤ c ∧ c ≤ 6) : c = 1 ∨ c = 2 ∨ c = 3 ∨ c = 4 ∨ c = 5 ∨ c = 6 := by omega
theorem in_out {c : Int} (h : ¬ (1 ≤ c ∧ c ≤ 6)) (n : Int) : inN c n = false := by
  obtain ⟨h1, h2, h3, h4, h5, h6⟩ := out_class h
  simp [inN, h1, h2, h3, h4, h5, h6]
theorem sets_out {c : Int} (h : ¬ (1 ≤ c ∧ c ≤ 6)) : setsC c = 0 := by
  obtain ⟨h1, h2, h3, h4, h5, h6⟩ := out_class h
  simp [setsC, h1, h2, h3, h4, h5, h6]
theorem and256 : ∀ n : Fin 256, (decide (Go.bits .and .i64 (setsC 1) (ofN ((n.val : Nat) : Int)) = 0) = !inN 1 ((n.val : Nat) : Int)) ∧ (decide (Go.bits .and .i64 (setsC 2) (ofN ((n.val : Nat) : Int)) = 0) = !inN 2 ((n.val : Nat) : Int)) ∧ (decide (Go.bits .and .i64 (setsC 3) (ofN ((n.val : Nat) : Int)) = 0) = !inN 3 ((n.val : Nat) : Int)) ∧ (decide (Go.bits .and .i64 (setsC 4) (ofN ((n.val : Nat) : Int)) = 0) = !inN 4 ((n.val : Nat) : Int)) ∧ (decide (Go.bits .and .i64 (setsC 5) (ofN ((n.val : Nat) : Int)) = 0) = !inN 5 ((n.val : Nat) : Int)) ∧ (decide (Go.bits .and .i64 (setsC 6) (ofN ((n.val : Nat) : Int)) = 0) = !inN 6 ((n.val : Nat) : Int)) ∧ (decide (Go.bits .and .i64 0 (ofN ((n.val : Nat) : Int)) = 0) = true) := by decide +kernel
theorem and_in (c : Int) (x : UInt8) : decide (Go.bits .and .i64 (setsC c) (ofN x.toNat) = 0) = !inC c x := by
  obtain ⟨p1, p2, p3, p4, p5, p6, p7⟩ := and256 ⟨x.toNat, u8_lt x⟩
  by_cases h : 1 ≤ c ∧ c ≤ 6
  · rcases in_class h with rfl | rfl | rfl | rfl | rfl | rfl
    · exact p1
    · exact p2
    · exact p3
    · exact p4
    · exact p5
    · exact p6
  · rw [sets_out h, inC, in_out h]; exact p7
/-- The place of the first byte for which something doesn't hold; -1. -/
def firstFrom (p : UInt8 → Bool) : Nat → List UInt8 → Int
  | _, [] => -1
  | i, x :: l => if p x = true then firstFrom p (i + 1) l else (i : Int)
theorem first_all (p : UInt8 → Bool) : ∀ (l : List UInt8) (i : Nat), l.all p = true → firstFrom p i l = -1
  | [], _, _ => rfl
  | x :: l, i, h => by
    rw [List.all_cons, Bool.and_eq_true] at h
    rw [firstFrom, if_pos h.1]; exact first_all p l _ h.2
theorem first_not (p : UInt8 → Bool) : ∀ (l : List UInt8) (i : Nat), l.all p = false → (i : Int) ≤ firstFrom p i l ∧ firstFrom p i l < (i : Int) + (l.length : Int)
  | [], _, h => by cases h
  | x :: l, i, h => by
    rw [firstFrom]
    by_cases hx : p x = true
    · rw [List.all_cons, hx, Bool.true_and] at h
      rw [if_pos hx]
      have := first_not p l (i + 1) h
      rw [List.length_cons]; omega
    · rw [if_neg hx, List.length_cons]; omega
theorem first_ge (p : UInt8 → Bool) (l : List UInt8) (i : Nat) : (firstFrom p i l ≥ 0) ↔ l.all p = false := by
  cases h : l.all p with
  | true => rw [first_all p l i h]; simp
  | false => have := first_not p l i h; simp; omega
theorem first_shift (p : UInt8 → Bool) : ∀ (l : List UInt8) (i : Nat), l.all p = false → firstFrom p i l = firstFrom p 0 l + (i : Int)
  | [], _, h => by cases h
  | x :: l, i, h => by
    rw [firstFrom, firstFrom]
    by_cases hx : p x = true
    · rw [List.all_cons, hx, Bool.true_and] at h
      rw [if_pos hx, if_pos hx, first_shift p l (i + 1) h, first_shift p l (0 + 1) h]; omega
    · rw [if_neg hx, if_neg hx]; omega
theorem first_append (p : UInt8 → Bool) : ∀ (l m : List UInt8) (i : Nat), firstFrom p i (l ++ m) = if l.all p = true then firstFrom p (i + l.length) m else firstFrom p i l
  | [], m, i => by simp
  | x :: l, m, i => by
    rw [List.cons_append, firstFrom, firstFrom, List.all_cons]
    by_cases hx : p x = true
    · rw [if_pos hx, first_append p l m (i + 1), hx, Bool.true_and, if_pos rfl, List.length_cons, show i + 1 + l.length = i + (l.length + 1) by omega]
    · rw [if_neg hx, if_neg hx, if_neg (by simp [hx])]
end Go.Proofs.YtkaihbkfobiejaaGreatDoor.Sp

/- Digits by halves of bytes, in plain words. -/
namespace Go.Proofs.YtkaihbkfobiejaaGreatDoor.Sp
open Go Go.RowKit
set_option linter.unusedVariables false
set_option linter.unusedSimpArgs false
/-- Digits, two to a byte. -/
def pack : List UInt8 → List UInt8
  | a :: b :: m => u8 (16 * (a.toNat - 48) + (b.toNat - 48)) :: pack m
  | _ => []
def even0 (l : List UInt8) : List UInt8 := if l.length % 2 = 0 then l else u8 48 :: l
def bcdPut (l : List UInt8) : List UInt8 × Bool := if 999 < l.length ∨ l.all dig = false then ([], false) else (pack (even0 l), true)
theorem even0_len (l : List UInt8) : (even0 l).length % 2 = 0 ∧ (even0 l).length = 2 * ((l.length + 1) / 2) := by
  unfold even0; split
  · omega
  · rw [List.length_cons]; omega
theorem dig48 : dig (u8 48) = true := by decide
theorem even0_dig {l : List UInt8} (h : l.all dig = true) : (even0 l).all dig = true := by
  unfold even0; split
  · exact h
  · rw [List.all_cons, h]; decide
theorem pack_length : ∀ (l : List UInt8), l.length % 2 = 0 → 2 * (pack l).length = l.length
  | [], _ => rfl
  | [a], h => by simp at h
  | a :: b :: m, h => by
    have := pack_length m (by rw [List.length_cons, List.length_cons] at h; omega)
    rw [pack, List.length_cons, List.length_cons, List.length_cons]; omega
theorem pack_len {l : List UInt8} : (pack (even0 l)).length = (l.length + 1) / 2 := by
  have h := even0_len l
  have := pack_length _ h.1
  omega
/-- The digits in bytes, from place i on; o: those ahead. -/
def bcdFrom (odd : Bool) : Nat → List UInt8 → List UInt8 → List UInt8 × Int × Int
  | _, o, [] => (if odd = true then o.drop 1 else o, 0, 0)
  | i, o, c :: m => if i = 0 ∧ odd = true ∧ c.toNat / 16 ≠ 0 then ([], 4, 0) else if 9 < c.toNat / 16 ∨ 9 < c.toNat % 16 then ([], 3, (i : Int))
    else bcdFrom odd (i + 1) (o ++ [u8 (48 + c.toNat / 16), u8 (48 + c.toNat % 16)]) m
def bcdGet (b : List UInt8) (n : Int) : List UInt8 × Int × Int :=
  if n < 0 ∨ 999 < n then ([], 1, 0) else if b.length < (n.toNat + 1) / 2 then ([], 2, (b.length : Int)) else bcdFrom (decide (n.toNat % 2 = 1)) 0 [] (b.take ((n.toNat + 1) / 2))
theorem two_dig {a b : UInt8} (ha : dig a = true) (hb : dig b = true) : 16 * (a.toNat - 48) + (b.toNat - 48) < 256 ∧ (16 * (a.toNat - 48) + (b.toNat - 48)) / 16 = a.toNat - 48 ∧ (16 * (a.toNat - 48) + (b.toNat - 48)) % 16 = b.toNat - 48 ∧ 48 + (a.toNat - 48) = a.toNat ∧ 48 + (b.toNat - 48) = b.toNat ∧ a.toNat - 48 ≤ 9 ∧ b.toNat - 48 ≤ 9 := by
  have ha := (dig_iff a).1 ha
  have hb := (dig_iff b).1 hb
  omega
/-- What is packed is got: the whole, behind the first. -/
theorem bcdFrom_pack (odd : Bool) : ∀ (m : List UInt8) (i : Nat) (o : List UInt8), m.length % 2 = 0 → m.all dig = true → (i ≠ 0 ∨ odd = false ∨ ∀ a t, m = a :: t → a = u8 48) → bcdFrom odd i o (pack m) = (if odd = true then (o ++ m).drop 1 else o ++ m, 0, 0)
  | [], i, o, _, _, _ => by simp [pack, bcdFrom]
  | [a], i, o, h, _, _ => by simp at h
  | a :: b :: m, i, o, h, hd, hi => by
    simp only [List.all_cons, Bool.and_eq_true] at hd
    obtain ⟨h1, h2, h3, h4, h5, h6, h7⟩ := two_dig hd.1 hd.2.1
    have hm : m.length % 2 = 0 := by rw [List.length_cons, List.length_cons] at h; omega
    rw [pack, bcdFrom, u8_toNat _ h1, h2, h3, h4, h5, u8_of_nat, u8_of_nat]
    rw [if_neg, if_neg (by omega), bcdFrom_pack odd m (i + 1) _ hm hd.2.2 (.inl (by omega))]
    · simp
    · rintro ⟨e1, e2, e3⟩
      rcases hi with hi | hi | hi
      · exact hi e1
      · rw [hi] at e2; cases e2
      · have := hi a (b :: m) rfl
        subst this
        exact e3 (by decide)
theorem bcdGet_put (l more : List UInt8) (h9 : l.length ≤ 999) (hd : l.all dig = true) : bcdGet (pack (even0 l) ++ more) (l.length : Int) = (l, 0, 0) := by
  have h1 := even0_len l
  have h2 := @pack_len l
  unfold bcdGet
  rw [if_neg (by omega), Int.toNat_natCast, if_neg (by rw [List.length_append]; omega), List.take_left' h2]
  rw [bcdFrom_pack _ _ _ _ h1.1 (even0_dig hd)]
  · by_cases h : l.length % 2 = 1
    · rw [if_pos (by simp [h])]
      have : even0 l = u8 48 :: l := if_neg (by omega)
      rw [this]; simp
    · rw [if_neg (by simp [h])]
      have : even0 l = l := if_pos (by omega)
      rw [this]; simp
  · by_cases h : l.length % 2 = 1
    · right; right
      intro a t e
      have : even0 l = u8 48 :: l := if_neg (by omega)
      rw [this] at e; injection e with e _; exact e.symm
    · right; left; simp [h]
/-- What is got is packed as it was. -/
theorem bcdFrom_ok (odd : Bool) : ∀ (b : List UInt8) (i : Nat) (o r : List UInt8) (p : Int), o.length % 2 = 0 → o.all dig = true → bcdFrom odd i o b = (r, 0, p) →
    p = 0 ∧ ∃ m, r = (if odd = true then (o ++ m).drop 1 else o ++ m) ∧ m.all dig = true ∧ m.length = 2 * b.length ∧ pack m = b ∧ (i = 0 → odd = true → ∀ a t, m = a :: t → a = u8 48)
  | [], i, o, r, p, ho, hod, h => by
    simp only [bcdFrom, Prod.mk.injEq, true_and] at h
    exact ⟨h.2.symm, [], by simp [← h.1], rfl, rfl, rfl, fun _ _ _ _ e => by cases e⟩
  | c :: b, i, o, r, p, ho, hod, h => by
    rw [bcdFrom] at h
    by_cases h1 : i = 0 ∧ odd = true ∧ c.toNat / 16 ≠ 0
    · rw [if_pos h1] at h; simp at h
    · rw [if_neg h1] at h
      by_cases h2 : 9 < c.toNat / 16 ∨ 9 < c.toNat % 16
      · rw [if_pos h2] at h; simp at h
      · rw [if_neg h2] at h
        have d1 : dig (u8 (48 + c.toNat / 16)) = true := dig_ofNat (by omega)
        have d2 : dig (u8 (48 + c.toNat % 16)) = true := dig_ofNat (by omega)
        obtain ⟨hp, m, hr, hmd, hml, hmp, -⟩ := bcdFrom_ok odd b (i + 1) _ r p (by simp; omega) (by simp [List.all_append, hod, d1, d2]) h
        refine ⟨hp, u8 (48 + c.toNat / 16) :: u8 (48 + c.toNat % 16) :: m, by rw [hr]; simp, by simp [d1, d2, hmd], by simp [hml]; omega, ?_, ?_⟩
        · have hc := u8_lt c
          rw [pack, u8_toNat _ (by omega), u8_toNat _ (by omega), hmp, show 16 * (48 + c.toNat / 16 - 48) + (48 + c.toNat % 16 - 48) = c.toNat by omega, u8_of_nat]
        · intro hi hodd a t e
          injection e with e _
          have : c.toNat / 16 = 0 := by
            rcases Nat.eq_zero_or_pos (c.toNat / 16) with h | h
            · exact h
            · exact absurd ⟨hi, hodd, by omega⟩ h1
          rw [← e, this]
theorem bcdGet_ok {b r : List UInt8} {n p : Int} (h : bcdGet b n = (r, 0, p)) : p = 0 ∧ 0 ≤ n ∧ n ≤ 999 ∧ (n.toNat + 1) / 2 ≤ b.length ∧ r.length = n.toNat ∧ r.all dig = true ∧ pack (even0 r) = b.take ((n.toNat + 1) / 2) := by
  unfold bcdGet at h
  by_cases h1 : n < 0 ∨ 999 < n
  · rw [if_pos h1] at h; simp at h
  · rw [if_neg h1] at h
    by_cases h2 : b.length < (n.toNat + 1) / 2
    · rw [if_pos h2] at h; simp at h
    · rw [if_neg h2] at h
      obtain ⟨hp, m, hr, hmd, hml, hmp, h48⟩ := bcdFrom_ok _ _ 0 [] r p rfl rfl h
      rw [List.nil_append] at hr
      have hml' : m.length = 2 * ((n.toNat + 1) / 2) := by rw [hml, List.length_take]; omega
      by_cases ho : n.toNat % 2 = 1
      · rw [if_pos (by simp [ho])] at hr
        match m, hml', hmd, hmp, hr, h48 with
        | [], hml', _, _, _, _ => simp at hml'; omega
        | a :: t, hml', hmd, hmp, hr, h48 =>
          have ha := h48 rfl (by simp [ho]) a t rfl
          subst ha
          rw [List.drop_succ_cons, List.drop_zero] at hr
          subst hr
          rw [List.length_cons] at hml'
          refine ⟨hp, by omega, by omega, by omega, by omega, by simp [List.all_cons] at hmd; simpa using hmd.2, ?_⟩
          have : even0 r = u8 48 :: r := if_neg (by omega)
          rw [this]; exact hmp
      · rw [if_neg (by simp [ho])] at hr
        subst hr
        refine ⟨hp, by omega, by omega, by omega, by omega, hmd, ?_⟩
        have : even0 r = r := if_pos (by omega)
        rw [this]; exact hmp
theorem bcdFrom_no (odd : Bool) : ∀ (b : List UInt8) (i : Nat) (o : List UInt8), (bcdFrom odd i o b).2.1 ≠ 0 → (bcdFrom odd i o b).1 = [] ∧ ((bcdFrom odd i o b).2.1 = 3 ∨ (bcdFrom odd i o b).2.1 = 4)
  | [], i, o, h => by simp [bcdFrom] at h
  | c :: b, i, o, h => by
    rw [bcdFrom] at h ⊢
    by_cases h1 : i = 0 ∧ odd = true ∧ c.toNat / 16 ≠ 0
    · rw [if_pos h1]; simp
    · rw [if_neg h1] at h ⊢
      by_cases h2 : 9 < c.toNat / 16 ∨ 9 < c.toNat % 16
      · rw [if_pos h2]; simp
      · rw [if_neg h2] at h ⊢; exact bcdFrom_no odd b _ _ h
theorem bcdGet_no {b : List UInt8} {n : Int} (h : (bcdGet b n).2.1 ≠ 0) : (bcdGet b n).1 = [] := by
  unfold bcdGet at h ⊢
  split
  · rfl
  · rename_i h1
    rw [if_neg h1] at h
    split
    · rfl
    · rename_i h2
      rw [if_neg h2] at h
      exact (bcdFrom_no _ _ _ _ h).1
end Go.Proofs.YtkaihbkfobiejaaGreatDoor.Sp

/- What the program's functions on packed digits answer. -/
namespace Go.Proofs.YtkaihbkfobiejaaGreatDoor.Sp
open Go Go.RowKit
set_option linter.unusedVariables false
set_option linter.unusedSimpArgs false
theorem or100 : ∀ a b : Fin 10, Go.bits .or .u8 ((((((48 + a.val : Nat) : Int) - 48) % 256) * 16) % 256) ((((48 + b.val : Nat) : Int) - 48) % 256) = ((16 * a.val + b.val : Nat) : Int) := by decide +kernel
theorem or_dig {a b : UInt8} (ha : dig a = true) (hb : dig b = true) : Go.bits .or .u8 (((((a.toNat : Int) - 48) % 256) * 16) % 256) (((b.toNat : Int) - 48) % 256) = ((16 * (a.toNat - 48) + (b.toNat - 48) : Nat) : Int) := by
  have ha := (dig_iff a).1 ha
  have hb := (dig_iff b).1 hb
  have := or100 ⟨a.toNat - 48, by omega⟩ ⟨b.toNat - 48, by omega⟩
  simp only at this
  rwa [show 48 + (a.toNat - 48) = a.toNat by omega, show 48 + (b.toNat - 48) = b.toNat by omega] at this
theorem get256 : ∀ n : Fin 256, ((n.val : Nat) : Int) / 16 = ((n.val / 16 : Nat) : Int) ∧ Go.bits .and .u8 ((n.val : Nat) : Int) 15 = ((n.val % 16 : Nat) : Int) ∧ (48 + ((n.val / 16 : Nat) : Int)) % 256 = ((48 + n.val / 16 : Nat) : Int) ∧ (48 + ((n.val % 16 : Nat) : Int)) % 256 = ((48 + n.val % 16 : Nat) : Int) := by decide +kernel
end Go.Proofs.YtkaihbkfobiejaaGreatDoor.Sp

/- Lengths ahead of fields, in plain words. -/
namespace Go.Proofs.YtkaihbkfobiejaaGreatDoor.Sp
open Go Go.RowKit
set_option linter.unusedVariables false
set_option linter.unusedSimpArgs false
def preOk (style form : Int) : Bool := decide ((style = 1 ∨ style = 2) ∧ (form = 2 ∨ form = 3))
def preSize (style form : Int) : Nat := if style = 2 then (form.toNat + 1) / 2 else form.toNat
def preMost (form : Int) : Int := if form = 2 then 99 else if form = 3 then 999 else 0
def prePut (style form n : Int) : List UInt8 × Int :=
  if preOk style form = true then (if (putNum n form).2 = true then ((if style = 2 then (bcdPut (bl (putNum n form).1)).1 else bl (putNum n form).1), 0) else ([], 5)) else ([], 1)
def preDigits (style form : Int) (s : List UInt8) : List UInt8 × Int := if style = 2 then ((bcdGet s form).1, (bcdGet s form).2.1) else (s, 0)
def preGet (style form : Int) (b : List UInt8) (at_ : Int) : Int × Int × Int :=
  if preOk style form = true ∧ 0 ≤ at_ ∧ at_ ≤ (b.length : Int) then
    (if (b.length : Int) - at_ < (preSize style form : Int) then (0, 0, 2)
     else if (preDigits style form ((b.drop at_.toNat).take (preSize style form))).2 = 0 then
       (if (getNum (preDigits style form ((b.drop at_.toNat).take (preSize style form))).1).2 = true then ((getNum (preDigits style form ((b.drop at_.toNat).take (preSize style form))).1).1, at_ + (preSize style form : Int), 0) else (0, 0, 3))
     else (0, 0, 3))
  else (0, 0, 1)
theorem putNum_pos {n w : Nat} (h1 : 1 ≤ w) (h2 : w ≤ 18) (h : n < 10 ^ w) : putNum (n : Int) (w : Int) = (sb (digs w n), true) := by
  unfold putNum
  rw [if_neg (by rintro (h' | h' | h' | h'); omega; omega; omega; exact h' h)]; rfl
theorem getNum_pos {l : List UInt8} (h1 : 1 ≤ l.length) (h2 : l.length ≤ 18) (h : l.all dig = true) : getNum l = (((num l : Nat) : Int), true) := by
  unfold getNum
  rw [if_neg (by rintro (h' | h' | h'); omega; omega; (rw [h] at h'; cases h'))]
theorem putNum_ok {n : Int} {w : Nat} (h : (putNum n (w : Int)).2 = true) : 0 ≤ n ∧ n.toNat < 10 ^ w ∧ 1 ≤ w ∧ w ≤ 18 ∧ (putNum n (w : Int)).1 = sb (digs w n.toNat) := by
  unfold putNum at h ⊢
  by_cases h1 : n < 0 ∨ (w : Int) < 1 ∨ 18 < (w : Int) ∨ ¬ n.toNat < 10 ^ (w : Int).toNat
  · rw [if_pos h1] at h; cases h
  · rw [if_neg h1]
    rw [Int.toNat_natCast] at *
    refine ⟨by omega, ?_, by omega, by omega, rfl⟩
    rcases Nat.lt_or_ge n.toNat (10 ^ w) with h2 | h2
    · exact h2
    · exact absurd (.inr (.inr (.inr (by omega)))) h1
theorem preOk_iff {style form : Int} (h : preOk style form = true) : (style = 1 ∨ style = 2) ∧ (form = 2 ∨ form = 3) := of_decide_eq_true h
/-- What is put is got. -/
theorem preGet_put {style form n : Int} (a c : List UInt8) (h : (prePut style form n).2 = 0) :
    preGet style form (a ++ (prePut style form n).1 ++ c) (a.length : Int) = (n, (a.length : Int) + ((prePut style form n).1.length : Int), 0) := by
  unfold prePut at h ⊢
  by_cases hk : preOk style form = true
  · rw [if_pos hk] at h ⊢
    by_cases hp : (putNum n form).2 = true
    · rw [if_pos hp] at h ⊢
      obtain ⟨hs, hf⟩ := preOk_iff hk
      obtain ⟨w, rfl, hw⟩ : ∃ w : Nat, form = (w : Int) ∧ (w = 2 ∨ w = 3) := by
        rcases hf with rfl | rfl
        · exact ⟨2, rfl, .inl rfl⟩
        · exact ⟨3, rfl, .inr rfl⟩
      obtain ⟨h0, hlt, hw1, hw2, he⟩ := putNum_ok hp
      have hdl := digs_length w n.toNat
      have hda := digs_all w n.toNat
      have hnum := num_digs w n.toNat hlt
      have hg : getNum (digs w n.toNat) = (n, true) := by rw [getNum_pos (by omega) (by omega) hda, hnum]; congr 1; omega
      rw [he]
      simp only [bl_sb]
      have hbp : bcdPut (digs w n.toNat) = (pack (even0 (digs w n.toNat)), true) := if_neg (by rintro (h' | h'); omega; (rw [hda] at h'; cases h'))
      have hgp : ∀ more, bcdGet (pack (even0 (digs w n.toNat)) ++ more) (w : Int) = (digs w n.toNat, 0, 0) := by
        intro more
        have := bcdGet_put (digs w n.toNat) more (by omega) hda
        rwa [hdl] at this
      have hpl : (pack (even0 (digs w n.toNat))).length = (w + 1) / 2 := by rw [pack_len, hdl]
      unfold preGet
      rw [if_pos ⟨hk, by omega, by simp; omega⟩, Int.toNat_natCast]
      rcases hs with rfl | rfl
      · have hsz : preSize 1 (w : Int) = w := rfl
        have e1 : ((a ++ digs w n.toNat ++ c).drop a.length).take w = digs w n.toNat := by
          rw [List.append_assoc, List.drop_left', List.take_left' hdl]; rfl
        have e2 : (1 : Int) = 2 ↔ False := by simp
        simp only [e2, if_false, hsz]
        rw [if_neg (by simp [hdl]; omega)]
        simp only [preDigits, e2, if_false]
        rw [e1, hg, hdl]; simp
      · have hsz : preSize 2 (w : Int) = (w + 1) / 2 := rfl
        have e1 : ((a ++ pack (even0 (digs w n.toNat)) ++ c).drop a.length).take ((w + 1) / 2) = pack (even0 (digs w n.toNat)) := by
          rw [List.append_assoc, List.drop_left', List.take_left' hpl]; rfl
        simp only [if_true, hsz, hbp]
        rw [if_neg (by simp [hpl]; omega)]
        simp only [preDigits, if_true]
        rw [e1]
        have := hgp []
        rw [List.append_nil] at this
        rw [this]
        simp only [if_true]
        rw [hg, hpl]; simp
    · rw [if_neg hp] at h; cases h
  · rw [if_neg hk] at h; cases h
/-- What is got is put as it was. -/
theorem prePut_get {style form n next : Int} {b : List UInt8} {at_ : Int} (h : preGet style form b at_ = (n, next, 0)) :
    prePut style form n = ((b.drop at_.toNat).take (preSize style form), 0) ∧ 0 ≤ at_ ∧ next = at_ + (preSize style form : Int) ∧ next ≤ (b.length : Int) ∧ 0 ≤ n ∧ n ≤ preMost form ∧ preOk style form = true := by
  unfold preGet at h
  by_cases hk : preOk style form = true ∧ 0 ≤ at_ ∧ at_ ≤ (b.length : Int)
  · rw [if_pos hk] at h
    obtain ⟨hk, h0, hl⟩ := hk
    by_cases h1 : (b.length : Int) - at_ < (preSize style form : Int)
    · rw [if_pos h1] at h; simp at h
    · rw [if_neg h1] at h
      obtain ⟨hs, hf⟩ := preOk_iff hk
      obtain ⟨w, rfl, hw⟩ : ∃ w : Nat, form = (w : Int) ∧ (w = 2 ∨ w = 3) := by
        rcases hf with rfl | rfl
        · exact ⟨2, rfl, .inl rfl⟩
        · exact ⟨3, rfl, .inr rfl⟩
      obtain ⟨s, hse⟩ : ∃ s, s = (b.drop at_.toNat).take (preSize style (w : Int)) := ⟨_, rfl⟩
      have hsl : s.length = preSize style (w : Int) := by rw [hse, List.length_take, List.length_drop]; omega
      rw [← hse] at h ⊢
      by_cases h2 : (preDigits style (w : Int) s).2 = 0
      · rw [if_pos h2] at h
        by_cases h3 : (getNum (preDigits style (w : Int) s).1).2 = true
        · rw [if_pos h3] at h
          simp only [Prod.mk.injEq, and_true] at h
          obtain ⟨hn, hnext⟩ := h
          -- the digits that stand there
          have key : ∃ d : List UInt8, (preDigits style (w : Int) s).1 = d ∧ d.length = w ∧ d.all dig = true ∧ (if style = 2 then (bcdPut d).1 else d) = s := by
            rcases hs with rfl | rfl
            · have e2 : (1 : Int) = 2 ↔ False := by simp
              have e3 : preDigits 1 (w : Int) s = (s, 0) := by simp [preDigits]
              rw [e3] at h3 ⊢
              refine ⟨s, rfl, hsl, ?_, by simp⟩
              unfold getNum at h3
              by_cases hc : s.length < 1 ∨ 18 < s.length ∨ s.all dig = false
              · rw [if_pos hc] at h3; cases h3
              · cases hd : s.all dig with
                | true => rfl
                | false => exact absurd (.inr (.inr hd)) hc
            · have e3 : preDigits 2 (w : Int) s = ((bcdGet s (w : Int)).1, (bcdGet s (w : Int)).2.1) := by simp [preDigits]
              rw [e3] at h2 ⊢
              have h' : bcdGet s (w : Int) = ((bcdGet s (w : Int)).1, 0, (bcdGet s (w : Int)).2.2) := by rw [← h2]
              obtain ⟨-, -, -, gl, glen, gd, gp⟩ := bcdGet_ok h'
              rw [Int.toNat_natCast] at gl glen gp
              refine ⟨(bcdGet s (w : Int)).1, rfl, glen, gd, ?_⟩
              have hbp : bcdPut (bcdGet s (w : Int)).1 = (pack (even0 (bcdGet s (w : Int)).1), true) := if_neg (by rintro (h' | h'); omega; (rw [gd] at h'; cases h'))
              rw [if_pos rfl, hbp]
              show pack _ = s
              rw [gp, List.take_of_length_le]
              rw [hsl]; show (w + 1) / 2 ≤ _; omega
          obtain ⟨d, hd1, hd2, hd3, hd4⟩ := key
          rw [hd1, getNum_pos (by omega) (by omega) hd3] at hn
          have hlt := num_lt d hd3
          rw [hd2] at hlt
          subst hn
          have hp : putNum ((num d : Nat) : Int) (w : Int) = (sb d, true) := by rw [putNum_pos (by omega) (by omega) hlt, digs_num w d hd2 hd3]
          refine ⟨?_, h0, hnext.symm, by omega, by omega, ?_, hk⟩
          · unfold prePut
            rw [if_pos hk, hp]
            simp only [if_true, bl_sb]
            rw [hd4]
          · rcases hw with rfl | rfl
            · show _ ≤ (99 : Int); omega
            · show _ ≤ (999 : Int); omega
        · rw [if_neg h3] at h; simp at h
      · rw [if_neg h2] at h; simp at h
  · rw [if_neg hk] at h; simp at h
theorem preGet_no {style form : Int} {b : List UInt8} {at_ : Int} (h : (preGet style form b at_).2.2 ≠ 0) : (preGet style form b at_).1 = 0 ∧ (preGet style form b at_).2.1 = 0 := by
  unfold preGet at h ⊢
  split
  · rename_i h1
    rw [if_pos h1] at h
    split
    · exact ⟨rfl, rfl⟩
    · rename_i h2
      rw [if_neg h2] at h
      split
      · rename_i h3
        rw [if_pos h3] at h
        split
        · rename_i h4
          rw [if_pos h4] at h; exact absurd rfl h
        · exact ⟨rfl, rfl⟩
      · exact ⟨rfl, rfl⟩
  · exact ⟨rfl, rfl⟩
end Go.Proofs.YtkaihbkfobiejaaGreatDoor.Sp

/- What the program's Put on lengths answers. -/
namespace Go.Proofs.YtkaihbkfobiejaaGreatDoor.Sp
open Go Go.RowKit
set_option linter.unusedVariables false
set_option linter.unusedSimpArgs false
end Go.Proofs.YtkaihbkfobiejaaGreatDoor.Sp

/- What the program's Get on lengths answers. -/
namespace Go.Proofs.YtkaihbkfobiejaaGreatDoor.Sp
open Go Go.RowKit
set_option linter.unusedVariables false
set_option linter.unusedSimpArgs false
theorem cut_sb (b : List UInt8) (a n : Nat) : (sb b).extract a (a + n) = sb ((b.drop a).take n) := by
  rw [sb_extract]
  congr 1
  rw [← List.take_drop]
end Go.Proofs.YtkaihbkfobiejaaGreatDoor.Sp

/- What the program's Most answers. -/
namespace Go.Proofs.YtkaihbkfobiejaaGreatDoor.Sp
open Go Go.RowKit
set_option linter.unusedVariables false
set_option linter.unusedSimpArgs false
end Go.Proofs.YtkaihbkfobiejaaGreatDoor.Sp
