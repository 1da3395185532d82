import Derived.Test.YtkaihbkfobiejaaGreatDoorNge
import Derived.Test.YtkaihbkfobiejaaGreatDoorNgc
import Derived.Test.YtkaihbkfobiejaaGreatDoorNgd
/- The bytes of a message, in plain words. -/
namespace Go.Proofs.YtkaihbkfobiejaaGreatDoor.Sp
open Go Go.RowKit
set_option linter.unusedVariables false
set_option linter.unusedSimpArgs false
/-- The bytes of a type. -/
def typeB (st : Int) (t : List UInt8) : List UInt8 := if right t = true then (if st = 1 then t else if st = 2 then (bcdPut t).1 else []) else []
def typeOk (st : Int) (t : List UInt8) : Bool := right t && decide (st = 1 ∨ st = 2)
theorem right_put {t : List UInt8} (h : right t = true) : bcdPut t = (pack (even0 t), true) ∧ t.length = 4 ∧ t.all dig = true := by
  simp only [right, Bool.and_eq_true, decide_eq_true_eq] at h
  refine ⟨?_, h.1, h.2⟩
  unfold bcdPut
  rw [if_neg (fun q => q.elim (by omega) fun q => by rw [h.2] at q; cases q)]
theorem typeB_length (st : Int) (t : List UInt8) : (typeB st t).length ≤ 4 := by
  unfold typeB
  split
  · rename_i h
    obtain ⟨h1, h2, h3⟩ := right_put h
    split
    · omega
    · split
      · rw [h1]; dsimp only; rw [pack_len]; omega
      · simp
  · simp
theorem cellPut_length (st no c fo mi ma : Int) (l : List UInt8) : (cellPut st no c fo mi ma l).1.length ≤ 3000 := by
  unfold cellPut
  split
  · simp
  · split
    · simp
    · rename_i h1 h2
      have k2 := Decidable.not_not.1 h2
      have h9 := specV_len k2
      have hf := (specE_zero (specV_zero k2).1).2.2.1
      have hh := head_length st fo l.length hf
      have hb := body_length st c l h9
      rw [List.length_append]; omega
/-- The bytes of a field. -/
noncomputable def cellB (st : Int) (s : List S5) (v : V) : List UInt8 := (cellPut st (findS v.1 s).1.1 (findS v.1 s).1.2.1 (findS v.1 s).1.2.2.1 (findS v.1 s).1.2.2.2.1 (findS v.1 s).1.2.2.2.2 (bl v.2)).1
noncomputable def fieldsB (st : Int) (s : List S5) (l : List V) : List UInt8 := l.flatMap (cellB st s)
theorem fieldsB_length (st : Int) (s : List S5) : ∀ l : List V, (fieldsB st s l).length ≤ 3000 * l.length
  | [] => Nat.le_refl _
  | v :: m => by
    have h1 := fieldsB_length st s m
    have h2 : (cellB st s v).length ≤ 3000 := cellPut_length ..
    unfold fieldsB at *
    rw [List.flatMap_cons, List.length_append, List.length_cons]; omega
/-- The numbers of a message as a set. -/
def setV (l : List V) : Nat × Nat := withAll (l.map Prod.fst) (0, 0)
theorem withAll_lt : ∀ (l : List Int) (x : Nat × Nat), x.1 < 18446744073709551616 → x.2 < 18446744073709551616 → (withAll l x).1 < 18446744073709551616 ∧ (withAll l x).2 < 18446744073709551616
  | [], x, h1, h2 => ⟨h1, h2⟩
  | n :: m, x, h1, h2 => withAll_lt m _ (Nat.or_lt_two_pow (n := 64) h1 (fb1_lt n)) (Nat.or_lt_two_pow (n := 64) h2 (fb2_lt n))
theorem setV_lt (l : List V) : (setV l).1 < 18446744073709551616 ∧ (setV l).2 < 18446744073709551616 := withAll_lt _ _ (by decide) (by decide)
def bitsB (st : Int) (l : List V) : List UInt8 := (bitPut st (setV l).1 (setV l).2).1
theorem bitsB_length (st : Int) (l : List V) : (bitsB st l).length ≤ 32 := by
  unfold bitsB bitPut
  split
  · simp
  · have hr : (bitRaw (setV l).1 (setV l).2).length ≤ 16 := by
      unfold bitRaw
      split
      · rw [be8_length]; omega
      · rw [List.length_append, be8_length, be8_length]; omega
    dsimp only
    split
    · rw [hexPut_length]; omega
    · omega
noncomputable def wireB (st : Int) (s : List S5) (t : List UInt8) (l : List V) : List UInt8 := typeB st t ++ bitsB st l ++ fieldsB st s l
/-- What encoding answers. -/
noncomputable def wireE (x : Int × Int × List S5) (t : List UInt8) (l : List V) : List UInt8 × Int × Int := if (msgE x t l).1 ≠ 0 then ([], msgE x t l) else (wireB x.1 x.2.2 t l, 0, 0)
end Go.Proofs.YtkaihbkfobiejaaGreatDoor.Sp

/- The message that bytes are, in plain words. -/
namespace Go.Proofs.YtkaihbkfobiejaaGreatDoor.Sp
open Go Go.RowKit
set_option linter.unusedVariables false
set_option linter.unusedSimpArgs false
def typeN (st : Int) : Nat := if st = 2 then 2 else 4
def typeT (st : Int) (b : List UInt8) : List UInt8 := if st = 2 then (bcdGet (b.take 2) 4).1 else b.take 4
/-- The type that bytes begin with. -/
def typeG (st ver : Int) (b : List UInt8) : List UInt8 × Int × Int :=
  if b.length < typeN st then ([], 0, 2) else if right (typeT st b) = true ∧ (((typeT st b).getD 0 0).toNat : Int) - 48 = ver then (typeT st b, (typeN st : Int), 0) else ([], 0, 7)
noncomputable def cellGet' (st : Int) (q : S5) (b : List UInt8) (a : Int) : List UInt8 × Int × Int := cellGet st q.1 q.2.1 q.2.2.1 q.2.2.2.1 q.2.2.2.2 b a
/-- The fields of some numbers that stand at a place. -/
noncomputable def decL (st : Int) (s : List S5) (b : List UInt8) : List Int → Int → List V × Int × Int
  | [], a => ([], if a < (b.length : Int) then (12, 129) else (0, 0))
  | n :: m, a => if (findS n s).2 = false then ([], 9, n) else if (cellGet' st (findS n s).1 b a).2.2 ≠ 0 then ([], (cellGet' st (findS n s).1 b a).2.2, n)
    else ((n, sb (cellGet' st (findS n s).1 b a).1) :: (decL st s b m (cellGet' st (findS n s).1 b a).2.1).1, (decL st s b m (cellGet' st (findS n s).1 b a).2.1).2)
/-- The message that bytes are. -/
noncomputable def decM (x : Int × Int × List S5) (b : List UInt8) : (List UInt8 × List V) × Int × Int :=
  if (schemaE x).1 ≠ 0 then (([], []), 1, -1) else if (typeG x.1 x.2.1 b).2.2 ≠ 0 then (([], []), (typeG x.1 x.2.1 b).2.2, 0)
  else if (bitGet x.1 b (typeG x.1 x.2.1 b).2.1).2.2 ≠ 0 then (((typeG x.1 x.2.1 b).1, []), (bitGet x.1 b (typeG x.1 x.2.1 b).2.1).2.2, 1)
  else (((typeG x.1 x.2.1 b).1, (decL x.1 x.2.2 b (fromS (bitGet x.1 b (typeG x.1 x.2.1 b).2.1).1.1 (bitGet x.1 b (typeG x.1 x.2.1 b).2.1).1.2 0) ((bitGet x.1 b (typeG x.1 x.2.1 b).2.1).2.1 : Int)).1),
    (decL x.1 x.2.2 b (fromS (bitGet x.1 b (typeG x.1 x.2.1 b).2.1).1.1 (bitGet x.1 b (typeG x.1 x.2.1 b).2.1).1.2 0) ((bitGet x.1 b (typeG x.1 x.2.1 b).2.1).2.1 : Int)).2)
theorem fromS_length (h l n : Nat) : (fromS h l n).length ≤ 128 := Nat.le_trans (lst_length _ _ _) (by omega)
end Go.Proofs.YtkaihbkfobiejaaGreatDoor.Sp

/- The numbers of a valid message and the set of them, in plain words. -/
namespace Go.Proofs.YtkaihbkfobiejaaGreatDoor.Sp
open Go Go.RowKit
set_option linter.unusedVariables false
set_option linter.unusedSimpArgs false
theorem b1_bit (n : Int) (j : Nat) (hj : j < 64) : (fb1 n).testBit (63 - j) = decide (n = ((1 + j : Nat) : Int)) := by
  unfold fb1
  split
  · rw [Nat.testBit_two_pow]; exact decide_eq_decide.2 (by omega)
  · rw [Nat.zero_testBit]; exact (decide_eq_false (by omega)).symm
theorem b2_bit (n : Int) (j : Nat) (hj : j < 64) : (fb2 n).testBit (63 - j) = decide (n = ((65 + j : Nat) : Int)) := by
  unfold fb2
  split
  · rw [Nat.testBit_two_pow]; exact decide_eq_decide.2 (by omega)
  · rw [Nat.zero_testBit]; exact (decide_eq_false (by omega)).symm
theorem all_bit : ∀ (L : List Int) (x : Nat × Nat) (j : Nat), j < 64 → (withAll L x).1.testBit (63 - j) = (x.1.testBit (63 - j) || decide (((1 + j : Nat) : Int) ∈ L)) ∧ (withAll L x).2.testBit (63 - j) = (x.2.testBit (63 - j) || decide (((65 + j : Nat) : Int) ∈ L))
  | [], x, j, hj => by simp [withAll]
  | a :: L, x, j, hj => by
    rw [withAll]
    obtain ⟨e1, e2⟩ := all_bit L (x.1 ||| fb1 a, x.2 ||| fb2 a) j hj
    rw [e1, e2, Nat.testBit_or, Nat.testBit_or, b1_bit a j hj, b2_bit a j hj, Bool.or_assoc, Bool.or_assoc, ← Bool.decide_or, ← Bool.decide_or]
    refine ⟨?_, ?_⟩
    · congr 1
      exact decide_eq_decide.2 (by rw [List.mem_cons]; exact ⟨fun h => h.imp Eq.symm id, fun h => h.imp Eq.symm id⟩)
    · congr 1
      exact decide_eq_decide.2 (by rw [List.mem_cons]; exact ⟨fun h => h.imp Eq.symm id, fun h => h.imp Eq.symm id⟩)
theorem all_has (L : List Int) (n : Nat) (h1 : 1 ≤ n) (h2 : n ≤ 128) : fhas (withAll L (0, 0)).1 (withAll L (0, 0)).2 (n : Int) = decide ((n : Int) ∈ L) := by
  rcases Nat.lt_or_ge 64 n with h | h
  · rw [fhas_low _ _ n h h2, show 128 - n = 63 - (n - 65) by omega, (all_bit L (0, 0) (n - 65) (by omega)).2, Nat.zero_testBit, Bool.false_or]
    exact decide_eq_decide.2 (by rw [show 65 + (n - 65) = n by omega])
  · rw [fhas_high _ _ n h1 h, show 64 - n = 63 - (n - 1) by omega, (all_bit L (0, 0) (n - 1) (by omega)).1, Nat.zero_testBit, Bool.false_or]
    exact decide_eq_decide.2 (by rw [show 1 + (n - 1) = n by omega])
theorem bits_eq {x y : Nat} (hx : x < 18446744073709551616) (hy : y < 18446744073709551616) (h : ∀ j, j < 64 → x.testBit (63 - j) = y.testBit (63 - j)) : x = y := by
  apply Nat.eq_of_testBit_eq
  intro i
  rcases Nat.lt_or_ge i 64 with hi | hi
  · have := h (63 - i) (by omega)
    rwa [show 63 - (63 - i) = i by omega] at this
  · rw [Nat.testBit_lt_two_pow (Nat.lt_of_lt_of_le (show x < 2 ^ 64 from hx) (Nat.pow_le_pow_right (by decide) hi)), Nat.testBit_lt_two_pow (Nat.lt_of_lt_of_le (show y < 2 ^ 64 from hy) (Nat.pow_le_pow_right (by decide) hi))]
theorem mem_fromS (h l : Nat) (n : Int) : n ∈ fromS h l 0 ↔ ∃ m : Nat, n = (m : Int) ∧ 1 ≤ m ∧ m ≤ 128 ∧ fhas h l (m : Int) = true := by
  constructor
  · intro hn
    have : ∃ m : Nat, n = (m : Int) := by
      unfold fromS lst at hn
      obtain ⟨m, -, e⟩ := List.mem_map.1 hn
      exact ⟨m, e.symm⟩
    obtain ⟨m, rfl⟩ := this
    unfold fromS at hn
    have := (mem_lst _ _ _ m).1 hn
    exact ⟨m, rfl, by omega, by omega, this.2⟩
  · rintro ⟨m, rfl, h1, h2, h3⟩
    unfold fromS
    exact (mem_lst _ _ _ m).2 ⟨by omega, h3⟩
theorem all_fromS {h l : Nat} (hh : h < 18446744073709551616) (hl : l < 18446744073709551616) : withAll (fromS h l 0) (0, 0) = (h, l) := by
  have hlt := withAll_lt (fromS h l 0) (0, 0) (by decide) (by decide)
  refine Prod.ext (bits_eq hlt.1 hh fun j hj => ?_) (bits_eq hlt.2 hl fun j hj => ?_)
  · rw [(all_bit _ (0, 0) j hj).1, Nat.zero_testBit, Bool.false_or]
    have e := fhas_high h l (1 + j) (by omega) (by omega)
    rw [show 64 - (1 + j) = 63 - j by omega] at e
    rw [← e]
    cases c : fhas h l ((1 + j : Nat) : Int) with
    | true => exact decide_eq_true ((mem_fromS h l _).2 ⟨1 + j, rfl, by omega, by omega, c⟩)
    | false =>
      refine decide_eq_false fun hm => ?_
      obtain ⟨m, e1, -, -, e2⟩ := (mem_fromS h l _).1 hm
      rw [← e1, c] at e2; cases e2
  · rw [(all_bit _ (0, 0) j hj).2, Nat.zero_testBit, Bool.false_or]
    have e := fhas_low h l (65 + j) (by omega) (by omega)
    rw [show 128 - (65 + j) = 63 - j by omega] at e
    rw [← e]
    cases c : fhas h l ((65 + j : Nat) : Int) with
    | true => exact decide_eq_true ((mem_fromS h l _).2 ⟨65 + j, rfl, by omega, by omega, c⟩)
    | false =>
      refine decide_eq_false fun hm => ?_
      obtain ⟨m, e1, -, -, e2⟩ := (mem_fromS h l _).1 hm
      rw [← e1, c] at e2; cases e2
theorem lst_pair (p : Nat → Bool) : ∀ (c i : Nat), (lst p i c).Pairwise (· < ·)
  | 0, i => List.Pairwise.nil
  | c + 1, i => by
    rw [lst_cons]
    split
    · refine List.Pairwise.cons (fun x hx => ?_) (lst_pair p c (i + 1))
      have : ∃ m : Nat, x = (m : Int) := by
        unfold lst at hx
        obtain ⟨m, -, e⟩ := List.mem_map.1 hx
        exact ⟨m, e.symm⟩
      obtain ⟨m, rfl⟩ := this
      have := (mem_lst _ _ _ m).1 hx
      show ((i : Nat) : Int) < (m : Int)
      omega
    · exact lst_pair p c (i + 1)
theorem fromS_pair (h l n : Nat) : (fromS h l n).Pairwise (· < ·) := lst_pair _ _ _
theorem asc_ext : ∀ {l m : List Int}, l.Pairwise (· < ·) → m.Pairwise (· < ·) → (∀ x, x ∈ l ↔ x ∈ m) → l = m
  | [], [], _, _, _ => rfl
  | [], b :: m, _, _, h => by have := (h b).2 (List.mem_cons_self ..); cases this
  | a :: l, [], _, _, h => by have := (h a).1 (List.mem_cons_self ..); cases this
  | a :: l, b :: m, h1, h2, h => by
    obtain ⟨p1, p2⟩ := List.pairwise_cons.1 h1
    obtain ⟨q1, q2⟩ := List.pairwise_cons.1 h2
    have e : a = b := by
      rcases List.mem_cons.1 ((h a).1 (List.mem_cons_self ..)) with e | e
      · exact e
      · rcases List.mem_cons.1 ((h b).2 (List.mem_cons_self ..)) with f | f
        · exact f.symm
        · have := q1 a e; have := p1 b f; omega
    subst e
    rw [asc_ext p2 q2 fun x => ⟨fun hx => by
      rcases List.mem_cons.1 ((h x).1 (List.mem_cons_of_mem _ hx)) with rfl | hm
      · have := p1 x hx; omega
      · exact hm, fun hx => by
      rcases List.mem_cons.1 ((h x).2 (List.mem_cons_of_mem _ hx)) with rfl | hm
      · have := q1 x hx; omega
      · exact hm⟩]
theorem findS_no {n : Int} : ∀ {s : List S5}, (findS n s).2 = true → (findS n s).1.1 = n
  | [], h => by cases h
  | v :: m, h => by
    rw [findS] at h ⊢
    split
    · assumption
    · rename_i c
      rw [if_neg c] at h
      exact findS_no h
theorem rightV_no {s : List S5} {v : V} (h : rightV s v) : 2 ≤ v.1 ∧ v.1 ≤ 128 := by
  have h1 := findS_no h.1
  have h2 := (specE_zero (specV_zero h.2).1).1
  rw [h1] at h2; exact h2
theorem rise_all {s : List S5} : ∀ {l : List V} {p : Int}, Rise s p l → (∀ n ∈ l.map Prod.fst, p < n ∧ 2 ≤ n ∧ n ≤ 128) ∧ (l.map Prod.fst).Pairwise (· < ·)
  | [], p, h => ⟨fun n hn => (by cases hn), List.Pairwise.nil⟩
  | v :: m, p, h => by
    cases h with
    | cons h1 h2 h3 =>
      obtain ⟨k1, k2⟩ := rise_all h3
      have hv := rightV_no h2
      rw [List.map_cons]
      refine ⟨fun n hn => ?_, List.Pairwise.cons (fun x hx => (k1 x hx).1) k2⟩
      rcases List.mem_cons.1 hn with rfl | hn
      · exact ⟨h1, hv⟩
      · have := k1 n hn; exact ⟨by omega, this.2⟩
theorem fromS_setV {s : List S5} {l : List V} (h : Rise s 0 l) : fromS (setV l).1 (setV l).2 0 = l.map Prod.fst := by
  obtain ⟨k1, k2⟩ := rise_all h
  refine asc_ext (fromS_pair _ _ _) k2 fun x => ?_
  rw [mem_fromS]
  unfold setV
  constructor
  · rintro ⟨m, rfl, h1, h2, h3⟩
    rw [all_has _ m h1 h2] at h3
    exact of_decide_eq_true h3
  · intro hx
    have := k1 x hx
    obtain ⟨m, rfl⟩ := Int.eq_ofNat_of_zero_le (show 0 ≤ x by omega)
    exact ⟨m, rfl, by omega, by omega, by rw [all_has _ m (by omega) (by omega)]; exact decide_eq_true hx⟩
theorem setV_low {s : List S5} {l : List V} (h : Rise s 0 l) : (setV l).1 < 9223372036854775808 := by
  have hlt := (setV_lt l).1
  have h1 := (all_bit (l.map Prod.fst) (0, 0) 0 (by decide)).1
  have h2 : ¬ ((1 + 0 : Nat) : Int) ∈ l.map Prod.fst := fun hm => by have := (rise_all h).1 _ hm; omega
  rw [Nat.zero_testBit, Bool.false_or, decide_eq_false h2] at h1
  have h3 := top_iff hlt
  unfold setV at h3
  rw [show 63 - 0 = 63 from rfl] at h1
  rw [h1] at h3
  have := of_decide_eq_false h3.symm
  unfold setV
  omega
theorem bitsB_eq {s : List S5} {l : List V} (st : Int) (hs : st = 1 ∨ st = 2) (h : Rise s 0 l) : bitsB st l = enc8 st (bitRaw (setV l).1 (setV l).2) := by
  unfold bitsB
  rw [bitPut_ok hs (setV_low h)]
end Go.Proofs.YtkaihbkfobiejaaGreatDoor.Sp

/- Encoding and decoding are each other's, in plain words. -/
namespace Go.Proofs.YtkaihbkfobiejaaGreatDoor.Sp
open Go Go.RowKit
set_option linter.unusedVariables false
set_option linter.unusedSimpArgs false
theorem cellB_get {st : Int} (hs : st = 1 ∨ st = 2) {s : List S5} {v : V} (h : rightV s v) (a r : List UInt8) :
    cellGet' st (findS v.1 s).1 (a ++ (cellB st s v ++ r)) (a.length : Int) = (bl v.2, ((a.length + (cellB st s v).length : Nat) : Int), 0) := get_put st _ _ _ _ _ (bl v.2) a r hs h.2
theorem decL_put {st : Int} (hs : st = 1 ∨ st = 2) {s : List S5} (q : List UInt8) : ∀ {l : List V} {p : Int} (a : List UInt8), Rise s p l → decL st s (a ++ (fieldsB st s l ++ q)) (l.map Prod.fst) (a.length : Int) = (l, if q = [] then (0, 0) else (12, 129))
  | [], p, a, h => by
    rw [List.map_nil, decL]
    show ([], if (a.length : Int) < ((a ++ ([] ++ q)).length : Int) then ((12, 129) : Int × Int) else (0, 0)) = _
    congr 1
    rw [List.nil_append, List.length_append]
    by_cases c : q = []
    · rw [if_pos c, c, if_neg (by simp)]
    · have := List.length_pos_iff.2 c
      rw [if_neg c, if_pos (by omega)]
  | v :: m, p, a, h => by
    cases h with
    | cons h1 h2 h3 =>
      have e : fieldsB st s (v :: m) ++ q = cellB st s v ++ (fieldsB st s m ++ q) := by
        unfold fieldsB
        rw [List.flatMap_cons, List.append_assoc]
      rw [e, List.map_cons, decL, if_neg (show ¬ (findS v.1 s).2 = false by rw [h2.1]; simp), cellB_get hs h2 a _, if_neg (not_not_intro rfl)]
      have ih := decL_put hs q (a ++ cellB st s v) h3
      rw [List.append_assoc, List.length_append] at ih
      dsimp only
      rw [ih, sb_bl]
theorem typeB_length' {st : Int} (hs : st = 1 ∨ st = 2) {t : List UInt8} (ht : right t = true) : (typeB st t).length = typeN st := by
  obtain ⟨h1, h2, h3⟩ := right_put ht
  unfold typeB typeN
  rw [if_pos ht]
  rcases hs with rfl | rfl
  · rw [if_pos rfl, if_neg (by decide)]; exact h2
  · rw [if_neg (by decide), if_pos rfl, if_pos rfl, h1]
    dsimp only
    rw [pack_len, h2]
theorem typeT_put {st : Int} (hs : st = 1 ∨ st = 2) {t : List UInt8} (ht : right t = true) (r : List UInt8) : typeT st (typeB st t ++ r) = t := by
  obtain ⟨h1, h2, h3⟩ := right_put ht
  have hl := typeB_length' hs ht
  unfold typeT
  unfold typeN at hl
  rcases hs with rfl | rfl
  · rw [if_neg (by decide)] at hl ⊢
    rw [List.take_left' hl]
    unfold typeB
    rw [if_pos ht, if_pos rfl]
  · rw [if_pos rfl] at hl ⊢
    rw [List.take_left' hl]
    unfold typeB
    rw [if_pos ht, if_neg (by decide), if_pos rfl, h1]
    have := bcdGet_put t [] (by omega) h3
    rw [List.append_nil, h2] at this
    exact congrArg Prod.fst this
theorem typeG_put {st : Int} (hs : st = 1 ∨ st = 2) {t : List UInt8} (ht : right t = true) {ver : Int} (hv : ((t.getD 0 0).toNat : Int) - 48 = ver) (r : List UInt8) : typeG st ver (typeB st t ++ r) = (t, ((typeB st t).length : Int), 0) := by
  have hl := typeB_length' hs ht
  unfold typeG
  rw [if_neg (by rw [List.length_append]; omega), typeT_put hs ht r, if_pos ⟨ht, hv⟩, hl]
/-- What is right is decoded from its bytes, with more behind or not. -/
theorem decM_put {x : Int × Int × List S5} {t : List UInt8} {l : List V} (h : msgE x t l = (0, 0)) (q : List UInt8) : decM x (wireB x.1 x.2.2 t l ++ q) = ((t, l), if q = [] then (0, 0) else (12, 129)) := by
  obtain ⟨⟨h1, h2, h3⟩, h4⟩ := (msgE_zero _ _ _).1.1 h
  have hs : x.1 = 1 ∨ x.1 = 2 := by
    unfold schemaE at h1
    by_cases c : x.1 = 1 ∨ x.1 = 2
    · exact c
    · rw [if_pos c] at h1; simp at h1
  have e1 : wireB x.1 x.2.2 t l ++ q = typeB x.1 t ++ (bitsB x.1 l ++ (fieldsB x.1 x.2.2 l ++ q)) := by
    unfold wireB
    rw [List.append_assoc, List.append_assoc]
  have e2 := bitGet_put hs (setV_low h4) (setV_lt l).2 (typeB x.1 t) (fieldsB x.1 x.2.2 l ++ q)
  rw [← bitsB_eq x.1 hs h4] at e2
  have e3 := decL_put hs q (typeB x.1 t ++ bitsB x.1 l) h4
  rw [List.append_assoc, List.length_append] at e3
  unfold decM
  rw [if_neg (not_not_intro h1), e1, typeG_put hs h2 h3, if_neg (not_not_intro rfl)]
  dsimp only
  rw [e2, if_neg (not_not_intro rfl)]
  dsimp only
  rw [fromS_setV h4, e3]
theorem cellGet_ok {st : Int} {s : List S5} {n : Int} (hf : (findS n s).2 = true) {b : List UInt8} {a : Nat} (h : (cellGet' st (findS n s).1 b (a : Int)).2.2 = 0) :
    rightV s (n, sb (cellGet' st (findS n s).1 b (a : Int)).1) ∧ ∃ e : Nat, (cellGet' st (findS n s).1 b (a : Int)).2.1 = (e : Int) ∧ a ≤ e ∧ e ≤ b.length ∧ b.drop a = cellB st s (n, sb (cellGet' st (findS n s).1 b (a : Int)).1) ++ b.drop e := by
  obtain ⟨h1, h2, h3, e, h4, h5, h6, h7⟩ := put_get (st := st) (no := (findS n s).1.1) (c := (findS n s).1.2.1) (fo := (findS n s).1.2.2.1) (mi := (findS n s).1.2.2.2.1) (ma := (findS n s).1.2.2.2.2) (b := b) (a := a) (t := (cellGet' st (findS n s).1 b (a : Int)).1) (nx := (cellGet' st (findS n s).1 b (a : Int)).2.1) (by rw [← h]; rfl)
  refine ⟨⟨hf, h2⟩, e, h4, h5, h6, ?_⟩
  have e1 : cellB st s (n, sb (cellGet' st (findS n s).1 b (a : Int)).1) = (b.drop a).take (e - a) := by
    unfold cellB
    show (cellPut st _ _ _ _ _ (bl (sb _))).1 = _
    rw [bl_sb, h7]
  rw [e1]
  conv => lhs; rw [← List.take_append_drop (e - a) (b.drop a)]
  rw [List.drop_drop, show a + (e - a) = e by omega]
/-- What decoding of fields finds. -/
theorem decL_ok (st : Int) (s : List S5) (b : List UInt8) : ∀ (L : List Int) (p : Int) (a : Nat), a ≤ b.length → L.Pairwise (· < ·) → (∀ n ∈ L, p < n) →
    Rise s p (decL st s b L (a : Int)).1 ∧ ((decL st s b L (a : Int)).2.1 = 0 → (decL st s b L (a : Int)).1.map Prod.fst = L ∧ (decL st s b L (a : Int)).2.2 = 0) ∧
    ((decL st s b L (a : Int)).2.1 ≠ 0 → (decL st s b L (a : Int)).2 = (12, 129) ∧ (decL st s b L (a : Int)).1.map Prod.fst = L ∨ (decL st s b L (a : Int)).2.2 ∈ L ∧ ∃ r, L = (decL st s b L (a : Int)).1.map Prod.fst ++ (decL st s b L (a : Int)).2.2 :: r) ∧
    ∃ c, a ≤ c ∧ c ≤ b.length ∧ b.drop a = fieldsB st s (decL st s b L (a : Int)).1 ++ b.drop c ∧ ((decL st s b L (a : Int)).2.1 = 0 → c = b.length) ∧ ((decL st s b L (a : Int)).2.1 = 12 ∧ (decL st s b L (a : Int)).2.2 = 129 → c < b.length ∨ (129 : Int) ∈ L)
  | [], p, a, ha, _, _ => by
    rw [decL]
    by_cases c : (a : Int) < (b.length : Int)
    · rw [if_pos c]
      refine ⟨.nil, fun h => (by cases h), fun _ => .inl ⟨rfl, rfl⟩, a, Nat.le_refl _, ha, rfl, fun h => (by cases h), fun _ => .inl (by omega)⟩
    · rw [if_neg c]
      refine ⟨.nil, fun _ => ⟨rfl, rfl⟩, fun h => absurd rfl h, a, Nat.le_refl _, ha, rfl, fun _ => by omega, fun h => by cases h.1⟩
  | n :: L, p, a, ha, hp, hL => by
    obtain ⟨p1, p2⟩ := List.pairwise_cons.1 hp
    have hn := hL n (List.mem_cons_self ..)
    rw [decL]
    by_cases c1 : (findS n s).2 = false
    · rw [if_pos c1]
      refine ⟨.nil, fun h => (by cases h), fun _ => .inr ⟨List.mem_cons_self .., L, rfl⟩, a, Nat.le_refl _, ha, rfl, fun h => (by cases h), fun h => by cases h.1⟩
    rw [if_neg c1]
    by_cases c2 : (cellGet' st (findS n s).1 b (a : Int)).2.2 = 0
    · rw [if_neg (not_not_intro c2)]
      obtain ⟨hr, e, he, he1, he2, he3⟩ := cellGet_ok (by simpa using c1) c2
      obtain ⟨k1, k2, k3, c, k4, k5, k6, k7, k8⟩ := decL_ok st s b L n e he2 p2 p1
      rw [he]
      dsimp only
      refine ⟨.cons hn hr k1, fun h => ⟨by rw [List.map_cons, (k2 h).1], (k2 h).2⟩, fun h => ?_, c, by omega, k5, ?_, k7, fun h => (k8 h).imp id (List.mem_cons_of_mem _)⟩
      · rcases k3 h with ⟨q1, q2⟩ | ⟨q1, r, q2⟩
        · exact .inl ⟨q1, by rw [List.map_cons, q2]⟩
        · exact .inr ⟨List.mem_cons_of_mem _ q1, r, by rw [List.map_cons, List.cons_append, ← q2]⟩
      · unfold fieldsB at k6 ⊢
        rw [he3, k6, List.flatMap_cons, List.append_assoc]
    · rw [if_pos c2]
      refine ⟨.nil, fun h => absurd h c2, fun _ => .inr ⟨List.mem_cons_self .., L, rfl⟩, a, Nat.le_refl _, ha, rfl, fun h => absurd h c2, fun h => .inr ?_⟩
      rw [← h.2]; exact List.mem_cons_self ..
end Go.Proofs.YtkaihbkfobiejaaGreatDoor.Sp

/- What decoding says of bytes, in plain words. -/
namespace Go.Proofs.YtkaihbkfobiejaaGreatDoor.Sp
open Go Go.RowKit
set_option linter.unusedVariables false
set_option linter.unusedSimpArgs false
theorem Rise.mem_right {s : List S5} : ∀ {l : List V} {p : Int} {v : V}, Rise s p l → v ∈ l → p < v.1 ∧ rightV s v
  | [], p, v, _, hv => by cases hv
  | u :: m, p, v, h, hv => by
    cases h with
    | cons h1 h2 h3 =>
      rcases List.mem_cons.1 hv with rfl | hv
      · exact ⟨h1, h2⟩
      · have := Rise.mem_right h3 hv
        exact ⟨by omega, this.2⟩
theorem wireB_length (st : Int) (s : List S5) (t : List UInt8) (l : List V) (hl : l.length ≤ 300) : (wireB st s t l).length ≤ 1000000 := by
  have h1 := typeB_length st t
  have h2 := bitsB_length st l
  have h3 := fieldsB_length st s l
  unfold wireB
  rw [List.length_append, List.length_append]; omega
theorem wireE_zero {x : Int × Int × List S5} {t : List UInt8} {l : List V} (h : msgE x t l = (0, 0)) : wireE x t l = (wireB x.1 x.2.2 t l, 0, 0) := by
  unfold wireE
  rw [h, if_neg (not_not_intro rfl)]
theorem wireE_no {x : Int × Int × List S5} {t : List UInt8} {l : List V} (h : ¬ msgE x t l = (0, 0)) : wireE x t l = ([], msgE x t l) ∧ (msgE x t l).1 ≠ 0 := by
  have h1 : (msgE x t l).1 ≠ 0 := fun e => h ((msgE_zero x t l).2.1 e)
  unfold wireE
  rw [if_pos h1]
  exact ⟨rfl, h1⟩
theorem schema_style {x : Int × Int × List S5} (h : (schemaE x).1 = 0) : x.1 = 1 ∨ x.1 = 2 := by
  unfold schemaE at h
  by_cases c : x.1 = 1 ∨ x.1 = 2
  · exact c
  · rw [if_pos c] at h; simp at h
theorem typeG_ok {st ver : Int} (hs : st = 1 ∨ st = 2) {b : List UInt8} (h : (typeG st ver b).2.2 = 0) :
    right (typeG st ver b).1 = true ∧ (((typeG st ver b).1.getD 0 0).toNat : Int) - 48 = ver ∧ (typeG st ver b).2.1 = ((typeN st : Nat) : Int) ∧ typeN st ≤ b.length ∧ b.take (typeN st) = typeB st (typeG st ver b).1 := by
  unfold typeG at h ⊢
  by_cases c1 : b.length < typeN st
  · rw [if_pos c1] at h; simp at h
  rw [if_neg c1] at h ⊢
  by_cases c2 : right (typeT st b) = true ∧ (((typeT st b).getD 0 0).toNat : Int) - 48 = ver
  · rw [if_pos c2]
    dsimp only
    refine ⟨c2.1, c2.2, rfl, by omega, ?_⟩
    obtain ⟨h1, h2, h3⟩ := right_put c2.1
    unfold typeB
    rw [if_pos c2.1]
    clear h
    rcases hs with rfl | rfl
    · rfl
    · show b.take 2 = (bcdPut (typeT 2 b)).1
      rw [h1]
      by_cases c3 : (bcdGet (b.take 2) 4).2.1 = 0
      · obtain ⟨-, -, -, -, -, -, e⟩ := bcdGet_ok (b := b.take 2) (n := 4) (r := (bcdGet (b.take 2) 4).1) (p := (bcdGet (b.take 2) 4).2.2) (by rw [← c3])
        rw [List.take_take] at e
        exact e.symm
      · have e : typeT 2 b = [] := bcdGet_no c3
        rw [e] at h2; cases h2
  · rw [if_neg c2] at h; simp at h
theorem typeG_no {st ver : Int} {b : List UInt8} (h : (typeG st ver b).2.2 ≠ 0) : (typeG st ver b).2.2 = 2 ∨ (typeG st ver b).2.2 = 7 := by
  unfold typeG at h ⊢
  split
  · exact .inl rfl
  · split
    · rename_i c1 c2
      rw [if_neg c1, if_pos c2] at h
      exact absurd rfl h
    · exact .inr rfl
/-- What decoding finds: nothing, a type, or a type and fields. -/
theorem decM_cases (x : Int × Int × List S5) (b : List UInt8) :
    ((decM x b).1 = ([], []) ∧ (decM x b).2.1 ≠ 0 ∧ (decM x b).2.2 ≤ 0) ∨
    ((schemaE x).1 = 0 ∧ right (decM x b).1.1 = true ∧ (((decM x b).1.1.getD 0 0).toNat : Int) - 48 = x.2.1 ∧ typeN x.1 ≤ b.length ∧ b.take (typeN x.1) = typeB x.1 (decM x b).1.1 ∧
      (((decM x b).1.2 = [] ∧ (decM x b).2.1 ≠ 0 ∧ (decM x b).2.2 = 1 ∧ (decM x b).2.1 = (bitGet x.1 b (typeN x.1 : Int)).2.2) ∨
       ((bitGet x.1 b (typeN x.1 : Int)).2.2 = 0 ∧ (decM x b).1.2 = (decL x.1 x.2.2 b (fromS (bitGet x.1 b (typeN x.1 : Int)).1.1 (bitGet x.1 b (typeN x.1 : Int)).1.2 0) ((bitGet x.1 b (typeN x.1 : Int)).2.1 : Int)).1 ∧
        (decM x b).2 = (decL x.1 x.2.2 b (fromS (bitGet x.1 b (typeN x.1 : Int)).1.1 (bitGet x.1 b (typeN x.1 : Int)).1.2 0) ((bitGet x.1 b (typeN x.1 : Int)).2.1 : Int)).2))) := by
  unfold decM
  by_cases c1 : (schemaE x).1 = 0
  · rw [if_neg (not_not_intro c1)]
    by_cases c2 : (typeG x.1 x.2.1 b).2.2 = 0
    · obtain ⟨h1, h2, h3, h4, h5⟩ := typeG_ok (schema_style c1) c2
      rw [if_neg (not_not_intro c2), h3]
      by_cases c3 : (bitGet x.1 b ((typeN x.1 : Nat) : Int)).2.2 = 0
      · rw [if_neg (not_not_intro c3)]
        exact .inr ⟨c1, h1, h2, h4, h5, .inr ⟨c3, rfl, rfl⟩⟩
      · rw [if_pos c3]
        exact .inr ⟨c1, h1, h2, h4, h5, .inl ⟨rfl, c3, rfl, rfl⟩⟩
    · rw [if_pos c2]
      exact .inl ⟨rfl, c2, Int.le_refl _⟩
  · rw [if_pos c1]
    exact .inl ⟨rfl, by decide, by decide⟩
/-- What was read is right, and the bytes behind it stand there. -/
theorem decM_part {x : Int × Int × List S5} {b : List UInt8} (h : (decM x b).1.1 ≠ []) : msgE x (decM x b).1.1 (decM x b).1.2 = (0, 0) ∧ ((decM x b).2.1 ≠ 0 → ∀ v ∈ (decM x b).1.2, v.1 < (decM x b).2.2) := by
  rcases decM_cases x b with ⟨h1, -, -⟩ | ⟨h1, h2, h3, h4, h5, h6⟩
  · rw [h1] at h; exact absurd rfl h
  · rcases h6 with ⟨k1, k2, k3, -⟩ | ⟨k1, k2, k3⟩
    · rw [k1]
      exact ⟨(msgE_zero _ _ _).1.2 ⟨⟨h1, h2, h3⟩, .nil⟩, fun _ v hv => by cases hv⟩
    · obtain ⟨-, -, -, g1, g2, g3, -, -⟩ := bitGet_ok k1
      have hp := fromS_pair (bitGet x.1 b (typeN x.1 : Int)).1.1 (bitGet x.1 b (typeN x.1 : Int)).1.2 0
      have hm : ∀ n ∈ fromS (bitGet x.1 b (typeN x.1 : Int)).1.1 (bitGet x.1 b (typeN x.1 : Int)).1.2 0, 0 < n := fun n hn => by
        obtain ⟨m, rfl, h1, -, -⟩ := (mem_fromS _ _ _).1 hn
        omega
      obtain ⟨d1, d2, d3, -⟩ := decL_ok x.1 x.2.2 b _ 0 _ g3 hp hm
      rw [k2, k3]
      refine ⟨(msgE_zero _ _ _).1.2 ⟨⟨h1, h2, h3⟩, d1⟩, fun he v hv => ?_⟩
      rcases d3 he with ⟨e1, e2⟩ | ⟨e1, r, e2⟩
      · rw [e1]
        have := ((rise_all d1).1 v.1 (List.mem_map.2 ⟨v, hv, rfl⟩)).2.2
        show v.1 < 129
        omega
      · rw [e2] at hp
        exact (List.pairwise_append.1 hp).2.2 v.1 (List.mem_map.2 ⟨v, hv, rfl⟩) _ (List.mem_cons_self ..)
/-- Bytes that are decoded are the bytes of what they are. -/
theorem decM_ok {x : Int × Int × List S5} {b : List UInt8} (h : (decM x b).2.1 = 0) : msgE x (decM x b).1.1 (decM x b).1.2 = (0, 0) ∧ wireB x.1 x.2.2 (decM x b).1.1 (decM x b).1.2 = b ∧ (decM x b).2.2 = 0 := by
  rcases decM_cases x b with ⟨-, h1, -⟩ | ⟨h1, h2, h3, h4, h5, h6⟩
  · exact absurd h h1
  · rcases h6 with ⟨-, k2, -, -⟩ | ⟨k1, k2, k3⟩
    · exact absurd h k2
    · have hne : (decM x b).1.1 ≠ [] := fun e => by rw [e] at h2; cases h2
      have hv := (decM_part hne).1
      obtain ⟨hs, g0, g4, g1, g2, g3, g5, g6⟩ := bitGet_ok k1
      have hp := fromS_pair (bitGet x.1 b (typeN x.1 : Int)).1.1 (bitGet x.1 b (typeN x.1 : Int)).1.2 0
      have hm : ∀ n ∈ fromS (bitGet x.1 b (typeN x.1 : Int)).1.1 (bitGet x.1 b (typeN x.1 : Int)).1.2 0, 0 < n := fun n hn => by
        obtain ⟨m, rfl, h1, -, -⟩ := (mem_fromS _ _ _).1 hn
        omega
      obtain ⟨d1, d2, -, c, d4, d5, d6, d7, -⟩ := decL_ok x.1 x.2.2 b _ 0 _ g3 hp hm
      rw [k3] at h
      obtain ⟨d2, d8⟩ := d2 h
      have d7 := d7 h
      rw [Int.toNat_natCast] at g5 g6
      have hset : setV (decM x b).1.2 = ((bitGet x.1 b (typeN x.1 : Int)).1.1, (bitGet x.1 b (typeN x.1 : Int)).1.2) := by
        unfold setV
        rw [k2, d2]
        exact all_fromS (by omega) g2
      have hbits : bitsB x.1 (decM x b).1.2 = (b.drop (typeN x.1)).take ((bitGet x.1 b (typeN x.1 : Int)).2.1 - typeN x.1) := by
        rw [g6]
        unfold bitsB
        rw [hset]
        dsimp only
        rw [bitPut_ok hs g1]
      refine ⟨hv, ?_, by rw [k3]; exact d8⟩
      unfold wireB
      rw [← h5, hbits, k2]
      have e6 : fieldsB x.1 x.2.2 (decL x.1 x.2.2 b (fromS (bitGet x.1 b (typeN x.1 : Int)).1.1 (bitGet x.1 b (typeN x.1 : Int)).1.2 0) ((bitGet x.1 b (typeN x.1 : Int)).2.1 : Int)).1 = b.drop (bitGet x.1 b (typeN x.1 : Int)).2.1 := by
        rw [d6, d7, List.drop_length, List.append_nil]
      rw [e6]
      have e7 : b.drop (bitGet x.1 b (typeN x.1 : Int)).2.1 = (b.drop (typeN x.1)).drop ((bitGet x.1 b (typeN x.1 : Int)).2.1 - typeN x.1) := by
        rw [List.drop_drop]
        congr 1; omega
      rw [e7, List.append_assoc, List.take_append_drop, List.take_append_drop]
end Go.Proofs.YtkaihbkfobiejaaGreatDoor.Sp
