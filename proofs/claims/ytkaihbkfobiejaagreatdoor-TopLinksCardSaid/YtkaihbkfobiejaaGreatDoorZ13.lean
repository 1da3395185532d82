import Derived.Test.YtkaihbkfobiejaaGreatDoorZ7
namespace Go.Proofs.YtkaihbkfobiejaaGreatDoor.Sp
open Go Go.RowKit
set_option linter.unusedVariables false
set_option linter.unusedSimpArgs false
def typeB (st : Int) (t : List UInt8) : List UInt8 := if right t = true then (if st = 1 then t else if st = 2 then (bcdPut t).1 else []) else []
def typeOk (st : Int) (t : List UInt8) : Bool := right t && decide (st = 1 ∨ st = 2)
theorem right_put {t : List UInt8} (h : right t = true) : bcdPut t = (pack (even0 t), true) ∧ t.length = 4 ∧ t.all dig = true := by
 simp only [right, Bool.and_eq_true, decide_eq_true_eq] at h
 refine ⟨?_, h.1, h.2⟩
 unfold bcdPut
 rw [if_neg (fun q => q.elim (by omega) fun q => by rw [h.2] at q; cases q)]
theorem typeB_length (st : Int) (t : List UInt8) : (typeB st t).length ≤ 4 := by
 unfold typeB
 split
 ·rename_i h
  obtain ⟨h1, h2, h3⟩ := right_put h
  split
  ·omega
  ·split
   ·rw [h1]; dsimp only; rw [pack_len]; omega
   ·simp
 ·simp
theorem cellPut_length (st no c fo mi ma : Int) (l : List UInt8) : (cellPut st no c fo mi ma l).1.length ≤ 3000 := by
 unfold cellPut
 split
 ·simp
 ·split
  ·simp
  ·rename_i h1 h2
   have k2 := Decidable.not_not.1 h2
   have h9 := specV_len k2
   have hf := (specE_zero (specV_zero k2).1).2.2.1
   have hh := head_length st fo l.length hf
   have hb := body_length st c l h9
   rw [List.length_append]; omega
noncomputable def cellB (st : Int) (s : List S5) (v : V) : List UInt8 := (cellPut st (findS v.1 s).1.1 (findS v.1 s).1.2.1 (findS v.1 s).1.2.2.1 (findS v.1 s).1.2.2.2.1 (findS v.1 s).1.2.2.2.2 (bl v.2)).1
noncomputable def fieldsB (st : Int) (s : List S5) (l : List V) : List UInt8 := l.flatMap (cellB st s)
def setV (l : List V) : Nat × Nat := withAll (l.map Prod.fst) (0, 0)
theorem withAll_lt : ∀ (l : List Int) (x : Nat × Nat), x.1 < 18446744073709551616 → x.2 < 18446744073709551616 → (withAll l x).1 < 18446744073709551616 ∧ (withAll l x).2 < 18446744073709551616
 | [], x, h1, h2 => ⟨h1, h2⟩
 | n :: m, x, h1, h2 => withAll_lt m _ (Nat.or_lt_two_pow (n := 64) h1 (fb1_lt n)) (Nat.or_lt_two_pow (n := 64) h2 (fb2_lt n))
theorem setV_lt (l : List V) : (setV l).1 < 18446744073709551616 ∧ (setV l).2 < 18446744073709551616 := withAll_lt _ _ (by decide) (by decide)
def bitsB (st : Int) (l : List V) : List UInt8 := (bitPut st (setV l).1 (setV l).2).1
theorem bitsB_length (st : Int) (l : List V) : (bitsB st l).length ≤ 32 := by
 unfold bitsB bitPut
 split
 ·simp
 ·have hr : (bitRaw (setV l).1 (setV l).2).length ≤ 16 := by
   unfold bitRaw
   split
   ·rw [be8_length]; omega
   ·rw [List.length_append, be8_length, be8_length]; omega
  dsimp only
  split
  ·rw [hexPut_length]; omega
  ·omega
noncomputable def wireB (st : Int) (s : List S5) (t : List UInt8) (l : List V) : List UInt8 := typeB st t ++ bitsB st l ++ fieldsB st s l
noncomputable def wireE (x : Int × Int × List S5) (t : List UInt8) (l : List V) : List UInt8 × Int × Int := if (msgE x t l).1 ≠ 0 then ([], msgE x t l) else (wireB x.1 x.2.2 t l, 0, 0)
def typeN (st : Int) : Nat := if st = 2 then 2 else 4
def typeT (st : Int) (b : List UInt8) : List UInt8 := if st = 2 then (bcdGet (b.take 2) 4).1 else b.take 4
def typeG (st ver : Int) (b : List UInt8) : List UInt8 × Int × Int :=
 if b.length < typeN st then ([], 0, 2) else if right (typeT st b) = true ∧ (((typeT st b).getD 0 0).toNat : Int) - 48 = ver then (typeT st b, (typeN st : Int), 0) else ([], 0, 7)
noncomputable def cellGet' (st : Int) (q : S5) (b : List UInt8) (a : Int) : List UInt8 × Int × Int := cellGet st q.1 q.2.1 q.2.2.1 q.2.2.2.1 q.2.2.2.2 b a
noncomputable def decL (st : Int) (s : List S5) (b : List UInt8) : List Int → Int → List V × Int × Int
 | [], a => ([], if a < (b.length : Int) then (12, 129) else (0, 0))
 | n :: m, a => if (findS n s).2 = false then ([], 9, n) else if (cellGet' st (findS n s).1 b a).2.2 ≠ 0 then ([], (cellGet' st (findS n s).1 b a).2.2, n)
  else ((n, sb (cellGet' st (findS n s).1 b a).1) :: (decL st s b m (cellGet' st (findS n s).1 b a).2.1).1, (decL st s b m (cellGet' st (findS n s).1 b a).2.1).2)
noncomputable def decM (x : Int × Int × List S5) (b : List UInt8) : (List UInt8 × List V) × Int × Int :=
 if (schemaE x).1 ≠ 0 then (([], []), 1, -1) else if (typeG x.1 x.2.1 b).2.2 ≠ 0 then (([], []), (typeG x.1 x.2.1 b).2.2, 0)
 else if (bitGet x.1 b (typeG x.1 x.2.1 b).2.1).2.2 ≠ 0 then (((typeG x.1 x.2.1 b).1, []), (bitGet x.1 b (typeG x.1 x.2.1 b).2.1).2.2, 1)
 else (((typeG x.1 x.2.1 b).1, (decL x.1 x.2.2 b (fromS (bitGet x.1 b (typeG x.1 x.2.1 b).2.1).1.1 (bitGet x.1 b (typeG x.1 x.2.1 b).2.1).1.2 0) ((bitGet x.1 b (typeG x.1 x.2.1 b).2.1).2.1 : Int)).1),
  (decL x.1 x.2.2 b (fromS (bitGet x.1 b (typeG x.1 x.2.1 b).2.1).1.1 (bitGet x.1 b (typeG x.1 x.2.1 b).2.1).1.2 0) ((bitGet x.1 b (typeG x.1 x.2.1 b).2.1).2.1 : Int)).2)
theorem fromS_length (h l n : Nat) : (fromS h l n).length ≤ 128 := Nat.le_trans (lst_length _ _ _) (by omega)
theorem b1_bit (n : Int) (j : Nat) (hj : j < 64) : (fb1 n).testBit (63 - j) = decide (n = ((1 + j : Nat) : Int)) := by
 unfold fb1
 split
 ·rw [Nat.testBit_two_pow]; exact decide_eq_decide.2 (by omega)
 ·rw [Nat.zero_testBit]; exact (decide_eq_false (by omega)).symm
theorem b2_bit (n : Int) (j : Nat) (hj : j < 64) : (fb2 n).testBit (63 - j) = decide (n = ((65 + j : Nat) : Int)) := by
 unfold fb2
 split
 ·rw [Nat.testBit_two_pow]; exact decide_eq_decide.2 (by omega)
 ·rw [Nat.zero_testBit]; exact (decide_eq_false (by omega)).symm
theorem mem_fromS (h l : Nat) (n : Int) : n ∈ fromS h l 0 ↔ ∃ m : Nat, n = (m : Int) ∧ 1 ≤ m ∧ m ≤ 128 ∧ fhas h l (m : Int) = true := by
 constructor
 ·intro hn
  have : ∃ m : Nat, n = (m : Int) := by
   unfold fromS lst at hn
   obtain ⟨m, -, e⟩ := List.mem_map.1 hn
   exact ⟨m, e.symm⟩
  obtain ⟨m, rfl⟩ := this
  unfold fromS at hn
  have := (mem_lst _ _ _ m).1 hn
  exact ⟨m, rfl, by omega, by omega, this.2⟩
 ·rintro ⟨m, rfl, h1, h2, h3⟩
  unfold fromS
  exact (mem_lst _ _ _ m).2 ⟨by omega, h3⟩
theorem lst_pair (p : Nat → Bool) : ∀ (c i : Nat), (lst p i c).Pairwise (· < ·)
 | 0, i => List.Pairwise.nil
 | c + 1, i => by
  rw [lst_cons]
  split
  ·refine List.Pairwise.cons (fun x hx => ?_) (lst_pair p c (i + 1))
   have : ∃ m : Nat, x = (m : Int) := by
    unfold lst at hx
    obtain ⟨m, -, e⟩ := List.mem_map.1 hx
    exact ⟨m, e.symm⟩
   obtain ⟨m, rfl⟩ := this
   have := (mem_lst _ _ _ m).1 hx
   show ((i : Nat) : Int) < (m : Int)
   omega
  ·exact lst_pair p c (i + 1)
theorem fromS_pair (h l n : Nat) : (fromS h l n).Pairwise (· < ·) := lst_pair _ _ _
theorem findS_no {n : Int} : ∀ {s : List S5}, (findS n s).2 = true → (findS n s).1.1 = n
 | [], h => by cases h
 | v :: m, h => by
  rw [findS] at h ⊢
  split
  ·assumption
  ·rename_i c
   rw [if_neg c] at h
   exact findS_no h
theorem rightV_no {s : List S5} {v : V} (h : rightV s v) : 2 ≤ v.1 ∧ v.1 ≤ 128 := by
 have h1 := findS_no h.1
 have h2 := (specE_zero (specV_zero h.2).1).1
 rw [h1] at h2; exact h2
theorem rise_all {s : List S5} : ∀ {l : List V} {p : Int}, Rise s p l → (∀ n ∈ l.map Prod.fst, p < n ∧ 2 ≤ n ∧ n ≤ 128) ∧ (l.map Prod.fst).Pairwise (· < ·)
 | [], p, h => ⟨fun n hn => (by cases hn), List.Pairwise.nil⟩
 | v :: m, p, h => by
  cases h with
  | cons h1 h2 h3 =>
   obtain ⟨k1, k2⟩ := rise_all h3
   have hv := rightV_no h2
   rw [List.map_cons]
   refine ⟨fun n hn => ?_, List.Pairwise.cons (fun x hx => (k1 x hx).1) k2⟩
   rcases List.mem_cons.1 hn with rfl | hn
   ·exact ⟨h1, hv⟩
   ·have := k1 n hn; exact ⟨by omega, this.2⟩
theorem cellGet_ok {st : Int} {s : List S5} {n : Int} (hf : (findS n s).2 = true) {b : List UInt8} {a : Nat} (h : (cellGet' st (findS n s).1 b (a : Int)).2.2 = 0) :
  rightV s (n, sb (cellGet' st (findS n s).1 b (a : Int)).1) ∧ ∃ e : Nat, (cellGet' st (findS n s).1 b (a : Int)).2.1 = (e : Int) ∧ a ≤ e ∧ e ≤ b.length ∧ b.drop a = cellB st s (n, sb (cellGet' st (findS n s).1 b (a : Int)).1) ++ b.drop e := by
 obtain ⟨h1, h2, h3, e, h4, h5, h6, h7⟩ := put_get (st := st) (no := (findS n s).1.1) (c := (findS n s).1.2.1) (fo := (findS n s).1.2.2.1) (mi := (findS n s).1.2.2.2.1) (ma := (findS n s).1.2.2.2.2) (b := b) (a := a) (t := (cellGet' st (findS n s).1 b (a : Int)).1) (nx := (cellGet' st (findS n s).1 b (a : Int)).2.1) (by rw [← h]; rfl)
 refine ⟨⟨hf, h2⟩, e, h4, h5, h6, ?_⟩
 have e1 : cellB st s (n, sb (cellGet' st (findS n s).1 b (a : Int)).1) = (b.drop a).take (e - a) := by
  unfold cellB
  show (cellPut st _ _ _ _ _ (bl (sb _))).1 = _
  rw [bl_sb, h7]
 rw [e1]
 conv => lhs; rw [← List.take_append_drop (e - a) (b.drop a)]
 rw [List.drop_drop, show a + (e - a) = e by omega]
theorem decL_ok (st : Int) (s : List S5) (b : List UInt8) : ∀ (L : List Int) (p : Int) (a : Nat), a ≤ b.length → L.Pairwise (· < ·) → (∀ n ∈ L, p < n) →
  Rise s p (decL st s b L (a : Int)).1 ∧ ((decL st s b L (a : Int)).2.1 = 0 → (decL st s b L (a : Int)).1.map Prod.fst = L ∧ (decL st s b L (a : Int)).2.2 = 0) ∧
  ((decL st s b L (a : Int)).2.1 ≠ 0 → (decL st s b L (a : Int)).2 = (12, 129) ∧ (decL st s b L (a : Int)).1.map Prod.fst = L ∨ (decL st s b L (a : Int)).2.2 ∈ L ∧ ∃ r, L = (decL st s b L (a : Int)).1.map Prod.fst ++ (decL st s b L (a : Int)).2.2 :: r) ∧
  ∃ c, a ≤ c ∧ c ≤ b.length ∧ b.drop a = fieldsB st s (decL st s b L (a : Int)).1 ++ b.drop c ∧ ((decL st s b L (a : Int)).2.1 = 0 → c = b.length) ∧ ((decL st s b L (a : Int)).2.1 = 12 ∧ (decL st s b L (a : Int)).2.2 = 129 → c < b.length ∨ (129 : Int) ∈ L)
 | [], p, a, ha, _, _ => by
  rw [decL]
  by_cases c : (a : Int) < (b.length : Int)
  ·rw [if_pos c]
   refine ⟨.nil, fun h => (by cases h), fun _ => .inl ⟨rfl, rfl⟩, a, Nat.le_refl _, ha, rfl, fun h => (by cases h), fun _ => .inl (by omega)⟩
  ·rw [if_neg c]
   refine ⟨.nil, fun _ => ⟨rfl, rfl⟩, fun h => absurd rfl h, a, Nat.le_refl _, ha, rfl, fun _ => by omega, fun h => by cases h.1⟩
 | n :: L, p, a, ha, hp, hL => by
  obtain ⟨p1, p2⟩ := List.pairwise_cons.1 hp
  have hn := hL n (List.mem_cons_self ..)
  rw [decL]
  by_cases c1 : (findS n s).2 = false
  ·rw [if_pos c1]
   refine ⟨.nil, fun h => (by cases h), fun _ => .inr ⟨List.mem_cons_self .., L, rfl⟩, a, Nat.le_refl _, ha, rfl, fun h => (by cases h), fun h => by cases h.1⟩
  rw [if_neg c1]
  by_cases c2 : (cellGet' st (findS n s).1 b (a : Int)).2.2 = 0
  ·rw [if_neg (not_not_intro c2)]
   obtain ⟨hr, e, he, he1, he2, he3⟩ := cellGet_ok (by simpa using c1) c2
   obtain ⟨k1, k2, k3, c, k4, k5, k6, k7, k8⟩ := decL_ok st s b L n e he2 p2 p1
   rw [he]
   dsimp only
   refine ⟨.cons hn hr k1, fun h => ⟨by rw [List.map_cons, (k2 h).1], (k2 h).2⟩, fun h => ?_, c, by omega, k5, ?_, k7, fun h => (k8 h).imp id (List.mem_cons_of_mem _)⟩
   ·rcases k3 h with ⟨q1, q2⟩ | ⟨q1, r, q2⟩
    ·exact .inl ⟨q1, by rw [List.map_cons, q2]⟩
    ·exact .inr ⟨List.mem_cons_of_mem _ q1, r, by rw [List.map_cons, List.cons_append, ← q2]⟩
   ·unfold fieldsB at k6 ⊢
    rw [he3, k6, List.flatMap_cons, List.append_assoc]
  ·rw [if_pos c2]
   refine ⟨.nil, fun h => absurd h c2, fun _ => .inr ⟨List.mem_cons_self .., L, rfl⟩, a, Nat.le_refl _, ha, rfl, fun h => absurd h c2, fun h => .inr ?_⟩
   rw [← h.2]; exact List.mem_cons_self ..
theorem Rise.mem_right {s : List S5} : ∀ {l : List V} {p : Int} {v : V}, Rise s p l → v ∈ l → p < v.1 ∧ rightV s v
 | [], p, v, _, hv => by cases hv
 | u :: m, p, v, h, hv => by
  cases h with
  | cons h1 h2 h3 =>
   rcases List.mem_cons.1 hv with rfl | hv
   ·exact ⟨h1, h2⟩
   ·have := Rise.mem_right h3 hv
    exact ⟨by omega, this.2⟩
theorem schema_style {x : Int × Int × List S5} (h : (schemaE x).1 = 0) : x.1 = 1 ∨ x.1 = 2 := by
 unfold schemaE at h
 by_cases c : x.1 = 1 ∨ x.1 = 2
 ·exact c
 ·rw [if_pos c] at h; simp at h
theorem typeG_ok {st ver : Int} (hs : st = 1 ∨ st = 2) {b : List UInt8} (h : (typeG st ver b).2.2 = 0) :
  right (typeG st ver b).1 = true ∧ (((typeG st ver b).1.getD 0 0).toNat : Int) - 48 = ver ∧ (typeG st ver b).2.1 = ((typeN st : Nat) : Int) ∧ typeN st ≤ b.length ∧ b.take (typeN st) = typeB st (typeG st ver b).1 := by
 unfold typeG at h ⊢
 by_cases c1 : b.length < typeN st
 ·rw [if_pos c1] at h; simp at h
 rw [if_neg c1] at h ⊢
 by_cases c2 : right (typeT st b) = true ∧ (((typeT st b).getD 0 0).toNat : Int) - 48 = ver
 ·rw [if_pos c2]
  dsimp only
  refine ⟨c2.1, c2.2, rfl, by omega, ?_⟩
  obtain ⟨h1, h2, h3⟩ := right_put c2.1
  unfold typeB
  rw [if_pos c2.1]
  clear h
  rcases hs with rfl | rfl
  ·rfl
  ·show b.take 2 = (bcdPut (typeT 2 b)).1
   rw [h1]
   by_cases c3 : (bcdGet (b.take 2) 4).2.1 = 0
   ·obtain ⟨-, -, -, -, -, -, e⟩ := bcdGet_ok (b := b.take 2) (n := 4) (r := (bcdGet (b.take 2) 4).1) (p := (bcdGet (b.take 2) 4).2.2) (by rw [← c3])
    rw [List.take_take] at e
    exact e.symm
   ·have e : typeT 2 b = [] := bcdGet_no c3
    rw [e] at h2; cases h2
 ·rw [if_neg c2] at h; simp at h
theorem decM_cases (x : Int × Int × List S5) (b : List UInt8) :
  ((decM x b).1 = ([], []) ∧ (decM x b).2.1 ≠ 0 ∧ (decM x b).2.2 ≤ 0) ∨
  ((schemaE x).1 = 0 ∧ right (decM x b).1.1 = true ∧ (((decM x b).1.1.getD 0 0).toNat : Int) - 48 = x.2.1 ∧ typeN x.1 ≤ b.length ∧ b.take (typeN x.1) = typeB x.1 (decM x b).1.1 ∧
   (((decM x b).1.2 = [] ∧ (decM x b).2.1 ≠ 0 ∧ (decM x b).2.2 = 1 ∧ (decM x b).2.1 = (bitGet x.1 b (typeN x.1 : Int)).2.2) ∨
    ((bitGet x.1 b (typeN x.1 : Int)).2.2 = 0 ∧ (decM x b).1.2 = (decL x.1 x.2.2 b (fromS (bitGet x.1 b (typeN x.1 : Int)).1.1 (bitGet x.1 b (typeN x.1 : Int)).1.2 0) ((bitGet x.1 b (typeN x.1 : Int)).2.1 : Int)).1 ∧
    (decM x b).2 = (decL x.1 x.2.2 b (fromS (bitGet x.1 b (typeN x.1 : Int)).1.1 (bitGet x.1 b (typeN x.1 : Int)).1.2 0) ((bitGet x.1 b (typeN x.1 : Int)).2.1 : Int)).2))) := by
 unfold decM
 by_cases c1 : (schemaE x).1 = 0
 ·rw [if_neg (not_not_intro c1)]
  by_cases c2 : (typeG x.1 x.2.1 b).2.2 = 0
  ·obtain ⟨h1, h2, h3, h4, h5⟩ := typeG_ok (schema_style c1) c2
   rw [if_neg (not_not_intro c2), h3]
   by_cases c3 : (bitGet x.1 b ((typeN x.1 : Nat) : Int)).2.2 = 0
   ·rw [if_neg (not_not_intro c3)]
    exact .inr ⟨c1, h1, h2, h4, h5, .inr ⟨c3, rfl, rfl⟩⟩
   ·rw [if_pos c3]
    exact .inr ⟨c1, h1, h2, h4, h5, .inl ⟨rfl, c3, rfl, rfl⟩⟩
  ·rw [if_pos c2]
   exact .inl ⟨rfl, c2, Int.le_refl _⟩
 ·rw [if_pos c1]
  exact .inl ⟨rfl, by decide, by decide⟩
theorem decM_part {x : Int × Int × List S5} {b : List UInt8} (h : (decM x b).1.1 ≠ []) : msgE x (decM x b).1.1 (decM x b).1.2 = (0, 0) ∧ ((decM x b).2.1 ≠ 0 → ∀ v ∈ (decM x b).1.2, v.1 < (decM x b).2.2) := by
 rcases decM_cases x b with ⟨h1, -, -⟩ | ⟨h1, h2, h3, h4, h5, h6⟩
 ·rw [h1] at h; exact absurd rfl h
 ·rcases h6 with ⟨k1, k2, k3, -⟩ | ⟨k1, k2, k3⟩
  ·rw [k1]
   exact ⟨(msgE_zero _ _ _).1.2 ⟨⟨h1, h2, h3⟩, .nil⟩, fun _ v hv => by cases hv⟩
  ·obtain ⟨-, -, -, g1, g2, g3, -, -⟩ := bitGet_ok k1
   have hp := fromS_pair (bitGet x.1 b (typeN x.1 : Int)).1.1 (bitGet x.1 b (typeN x.1 : Int)).1.2 0
   have hm : ∀ n ∈ fromS (bitGet x.1 b (typeN x.1 : Int)).1.1 (bitGet x.1 b (typeN x.1 : Int)).1.2 0, 0 < n := fun n hn => by
    obtain ⟨m, rfl, h1, -, -⟩ := (mem_fromS _ _ _).1 hn
    omega
   obtain ⟨d1, d2, d3, -⟩ := decL_ok x.1 x.2.2 b _ 0 _ g3 hp hm
   rw [k2, k3]
   refine ⟨(msgE_zero _ _ _).1.2 ⟨⟨h1, h2, h3⟩, d1⟩, fun he v hv => ?_⟩
   rcases d3 he with ⟨e1, e2⟩ | ⟨e1, r, e2⟩
   ·rw [e1]
    have := ((rise_all d1).1 v.1 (List.mem_map.2 ⟨v, hv, rfl⟩)).2.2
    show v.1 < 129
    omega
   ·rw [e2] at hp
    exact (List.pairwise_append.1 hp).2.2 v.1 (List.mem_map.2 ⟨v, hv, rfl⟩) _ (List.mem_cons_self ..)
theorem schE_ok : ∀ (s : List S5) (p : Int) (i : Nat), (schE p i s).1 = 0 ↔ ((∀ v ∈ s, specE v.1 v.2.1 v.2.2.1 v.2.2.2.1 v.2.2.2.2 = 0 ∧ p < v.1) ∧ (s.map Prod.fst).Pairwise (· < ·))
 | [], p, i => ⟨fun _ => ⟨fun _ hv => (by cases hv), .nil⟩, fun _ => rfl⟩
 | v :: s, p, i => by
  rw [schE]
  by_cases c1 : specE v.1 v.2.1 v.2.2.1 v.2.2.2.1 v.2.2.2.2 = 0
  ·rw [if_neg (not_not_intro c1)]
   by_cases c2 : v.1 ≤ p
   ·rw [if_pos c2]
    exact ⟨fun h => (by cases h), fun h => (by have := (h.1 v (List.mem_cons_self ..)).2; omega)⟩
   ·rw [if_neg c2, schE_ok s v.1 (i + 1), List.map_cons, List.pairwise_cons]
    constructor
    ·rintro ⟨h1, h2⟩
     refine ⟨fun w hw => (List.mem_cons.1 hw).elim (fun e => by rw [e]; exact ⟨c1, by omega⟩) fun hw => ⟨(h1 w hw).1, by have := (h1 w hw).2; omega⟩, fun n hn => ?_, h2⟩
     obtain ⟨w, hw, rfl⟩ := List.mem_map.1 hn
     exact (h1 w hw).2
    ·rintro ⟨h1, h2, h3⟩
     exact ⟨fun w hw => ⟨(h1 w (List.mem_cons_of_mem _ hw)).1, h2 w.1 (List.mem_map.2 ⟨w, hw, rfl⟩)⟩, h3⟩
  ·rw [if_pos c1]
   exact ⟨fun h => absurd h c1, fun h => absurd (h.1 v (List.mem_cons_self ..)).1 c1⟩
def stripR (l : List UInt8) : List UInt8 := (l.reverse.dropWhile (· == 48)).reverse
def stripB (l : List UInt8) : List UInt8 := (stripR l).dropWhile (· == 48)
theorem dropWhile_nil {p : UInt8 → Bool} : ∀ (l : List UInt8), l.dropWhile p = [] ↔ l.all p = true
 | [] => by simp
 | x :: l => by
  rw [List.dropWhile_cons, List.all_cons]
  cases c : p x
  ·simp
  ·simp [dropWhile_nil l]
theorem stripB_nil (l : List UInt8) : stripB l = [] ↔ l.all (· == 48) = true := by
 unfold stripB
 rw [dropWhile_nil]
 constructor
 ·intro h
  by_cases c : stripR l = []
  ·unfold stripR at c
   have c := List.reverse_eq_nil_iff.1 c
   rw [dropWhile_nil, List.all_reverse] at c
   exact c
  ·exfalso
   unfold stripR at c h
   rw [List.all_reverse] at h
   have hne : l.reverse.dropWhile (· == 48) ≠ [] := fun e => c (by rw [e]; rfl)
   obtain ⟨x, m, e⟩ := List.exists_cons_of_ne_nil hne
   have hx : (x == 48) = false := by
    have := List.head_dropWhile_not (· == (48 : UInt8)) hne
    simpa [e] using this
   rw [e, List.all_cons, hx] at h
   cases h
 ·intro h
  have : stripR l = [] := by
   unfold stripR
   rw [(dropWhile_nil _).2 (by rw [List.all_reverse]; exact h)]; rfl
  rw [this]; rfl
theorem stripR_concat (m : List UInt8) (x : UInt8) : stripR (m ++ [x]) = if x = 48 then stripR m else m ++ [x] := by
 unfold stripR
 rw [List.reverse_append, List.reverse_singleton, List.singleton_append, List.dropWhile_cons]
 by_cases c : x = 48
 ·rw [if_pos c, if_pos (by simpa using c)]
 ·rw [if_neg c, if_neg (by simpa using c)]; simp
def padB (l : List UInt8) (w : Int) : List UInt8 × Bool :=
 if l = [] ∨ 999 < l.length ∨ l.all dig = false ∨ w < 1 ∨ 999 < w then ([], false)
 else if (l.length : Int) ≤ w then (List.replicate (w.toNat - l.length) 48 ++ l, true)
 else if (l.take (l.length - w.toNat)).all (· == 48) = true then (l.drop (l.length - w.toNat), true) else ([], false)
def greatU (r : RU) : Bool := decide (1200 < r.2.2.2.1.size) || (decide (300 < r.2.2.2.2.length) || r.2.2.2.2.any fun p => decide (1200 < p.1.size) || decide (1200 < p.2.size))
def greatM (m : RC) : Bool := decide (300 < m.1.length) || (decide (300 < m.2.length) || ((m.1.any fun p => decide (100 < p.1.size) || decide (100 < p.2.size)) || m.2.any greatU))
def applyR (r : RU) (b : List S5) (t : ByteArray) : V × Int :=
 if r.1 = 1 then ((r.2.2.1, t), 0) else if r.1 = 2 then ((0, ByteArray.mk #[]), 0) else if r.1 = 3 then ((r.2.2.1, r.2.2.2.1), 0)
 else if r.1 = 4 then (if (findS r.2.2.1 b).2 = false then ((0, ByteArray.mk #[]), 9) else if (padB (bl t) (findS r.2.2.1 b).1.2.2.2.1).2 = false then ((0, ByteArray.mk #[]), 5) else ((r.2.2.1, sb (padB (bl t) (findS r.2.2.1 b).1.2.2.2.1).1), 0))
 else if r.1 = 5 then (if (applyP t r.2.2.2.2).2 = false then ((0, ByteArray.mk #[]), 15) else ((r.2.2.1, (applyP t r.2.2.2.2).1), 0))
 else ((0, ByteArray.mk #[]), 1)
theorem specE_of {a b : Int} {s : List S5} (hs : (schemaE (a, b, s)).1 = 0) {n : Int} (h : (findS n s).2 = true) : specE (findS n s).1.1 (findS n s).1.2.1 (findS n s).1.2.2.1 (findS n s).1.2.2.2.1 (findS n s).1.2.2.2.2 = 0 := by
 unfold schemaE at hs
 dsimp only at hs
 by_cases c1 : ¬ (a = 1 ∨ a = 2)
 ·rw [if_pos c1] at hs; cases hs
 rw [if_neg c1] at hs
 by_cases c2 : b < 0 ∨ 9 < b
 ·rw [if_pos c2] at hs; cases hs
 rw [if_neg c2] at hs
 have h1 := ((schE_ok _ _ _).1 hs).1
 have : ∀ s : List S5, (findS n s).2 = true → (findS n s).1 ∈ s := by
  intro s
  induction s with
  | nil => intro h; cases h
  | cons v m ih =>
   intro h
   rw [findS] at h ⊢
   by_cases c : v.1 = n
   ·rw [if_pos c]; exact List.mem_cons_self ..
   ·rw [if_neg c] at h ⊢; exact List.mem_cons_of_mem _ (ih h)
 exact (h1 _ (this s h)).1
def okNo (n : Int) : Prop := 1 ≤ n ∧ n ≤ 128
theorem bit_free {f : Nat × Nat} {n : Int} (hn : okNo n) : (f.1 &&& fb1 n = 0 ∧ f.2 &&& fb2 n = 0) ↔ fhas f.1 f.2 n = false := by
 obtain ⟨h1, h2⟩ := hn
 obtain ⟨k, rfl⟩ : ∃ k : Nat, n = (k : Int) := ⟨n.toNat, by omega⟩
 constructor
 ·rintro ⟨e1, e2⟩
  rcases Nat.lt_or_ge 64 k with c | c
  ·rw [fhas_low _ _ _ (by omega) (by omega)]
   have hb := b2_bit (k : Int) (k - 65) (by omega)
   rw [decide_eq_true (by omega), show 63 - (k - 65) = 128 - k by omega] at hb
   have := congrArg (fun x => Nat.testBit x (128 - k)) e2
   simp only [Nat.testBit_and, hb, Bool.and_true, Nat.zero_testBit] at this
   exact this
  ·rw [fhas_high _ _ _ (by omega) c]
   have hb := b1_bit (k : Int) (k - 1) (by omega)
   rw [decide_eq_true (by omega), show 63 - (k - 1) = 64 - k by omega] at hb
   have := congrArg (fun x => Nat.testBit x (64 - k)) e1
   simp only [Nat.testBit_and, hb, Bool.and_true, Nat.zero_testBit] at this
   exact this
 ·intro h
  rcases Nat.lt_or_ge 64 k with c | c
  ·rw [fhas_low _ _ _ (by omega) (by omega)] at h
   refine ⟨?_, ?_⟩
   ·apply Nat.eq_of_testBit_eq
    intro j
    rw [Nat.testBit_and, Nat.zero_testBit]
    rcases Nat.lt_or_ge j 64 with hj | hj
    ·have hb := b1_bit (k : Int) (63 - j) (by omega)
     rw [decide_eq_false (by omega), show 63 - (63 - j) = j by omega] at hb
     rw [hb, Bool.and_false]
    ·rw [Nat.testBit_lt_two_pow (Nat.lt_of_lt_of_le (fb1_lt _) (show 18446744073709551616 ≤ 2 ^ j from Nat.pow_le_pow_right (n := 2) (by decide) hj)), Bool.and_false]
   ·apply Nat.eq_of_testBit_eq
    intro j
    rw [Nat.testBit_and, Nat.zero_testBit]
    rcases Nat.lt_or_ge j 64 with hj | hj
    ·have hb := b2_bit (k : Int) (63 - j) (by omega)
     rw [show 63 - (63 - j) = j by omega] at hb
     rw [hb]
     by_cases e : j = 128 - k
     ·rw [e, h]; rfl
     ·rw [decide_eq_false (by omega), Bool.and_false]
    ·rw [Nat.testBit_lt_two_pow (Nat.lt_of_lt_of_le (fb2_lt _) (show 18446744073709551616 ≤ 2 ^ j from Nat.pow_le_pow_right (n := 2) (by decide) hj)), Bool.and_false]
  ·rw [fhas_high _ _ _ (by omega) c] at h
   refine ⟨?_, ?_⟩
   ·apply Nat.eq_of_testBit_eq
    intro j
    rw [Nat.testBit_and, Nat.zero_testBit]
    rcases Nat.lt_or_ge j 64 with hj | hj
    ·have hb := b1_bit (k : Int) (63 - j) (by omega)
     rw [show 63 - (63 - j) = j by omega] at hb
     rw [hb]
     by_cases e : j = 64 - k
     ·rw [e, h]; rfl
     ·rw [decide_eq_false (by omega), Bool.and_false]
    ·rw [Nat.testBit_lt_two_pow (Nat.lt_of_lt_of_le (fb1_lt _) (show 18446744073709551616 ≤ 2 ^ j from Nat.pow_le_pow_right (n := 2) (by decide) hj)), Bool.and_false]
   ·apply Nat.eq_of_testBit_eq
    intro j
    rw [Nat.testBit_and, Nat.zero_testBit]
    rcases Nat.lt_or_ge j 64 with hj | hj
    ·have hb := b2_bit (k : Int) (63 - j) (by omega)
     rw [decide_eq_false (by omega), show 63 - (63 - j) = j by omega] at hb
     rw [hb, Bool.and_false]
    ·rw [Nat.testBit_lt_two_pow (Nat.lt_of_lt_of_le (fb2_lt _) (show 18446744073709551616 ≤ 2 ^ j from Nat.pow_le_pow_right (n := 2) (by decide) hj)), Bool.and_false]
theorem has_or {f : Nat × Nat} {n m : Int} (hn : okNo n) (hm : okNo m) : fhas (f.1 ||| fb1 n) (f.2 ||| fb2 n) m = (fhas f.1 f.2 m || decide (m = n)) := by
 obtain ⟨h1, h2⟩ := hn
 obtain ⟨g1, g2⟩ := hm
 obtain ⟨k, rfl⟩ : ∃ k : Nat, m = (k : Int) := ⟨m.toNat, by omega⟩
 rcases Nat.lt_or_ge 64 k with c | c
 ·rw [fhas_low _ _ _ (by omega) (by omega), fhas_low _ _ _ (by omega) (by omega), Nat.testBit_or]
  have hb := b2_bit n (k - 65) (by omega)
  rw [show 63 - (k - 65) = 128 - k by omega] at hb
  rw [hb]
  congr 1
  exact decide_eq_decide.2 (by omega)
 ·rw [fhas_high _ _ _ (by omega) c, fhas_high _ _ _ (by omega) c, Nat.testBit_or]
  have hb := b1_bit n (k - 1) (by omega)
  rw [show 63 - (k - 1) = 64 - k by omega] at hb
  rw [hb]
  congr 1
  exact decide_eq_decide.2 (by omega)
theorem no_of {a b : Int} {s : List S5} (hs : (schemaE (a, b, s)).1 = 0) {n : Int} (h : (findS n s).2 = true) : 2 ≤ n ∧ n ≤ 128 := by
 have h1 := (specE_zero (specE_of hs h)).1
 rw [findS_no h] at h1; exact h1
theorem has_none (n : Int) : fhas 0 0 n = false := by unfold fhas; simp
def trP (l : List RU) (b : List S5) (t : ByteArray) : List V → List V → (ByteArray × List V) × Int × Int
 | [], o => ((t, o), 0, 0)
 | v :: m, o => if (ruleOf v.1 l).2 = false then ((ByteArray.mk #[], []), 9, v.1) else if ¬ (applyR (ruleOf v.1 l).1 b v.2).2 = 0 then ((ByteArray.mk #[], []), (applyR (ruleOf v.1 l).1 b v.2).2, v.1) else if ¬ (applyR (ruleOf v.1 l).1 b v.2).1.1 = 0 then trP l b t m (withV (applyR (ruleOf v.1 l).1 b v.2).1.1 (applyR (ruleOf v.1 l).1 b v.2).1.2 o) else trP l b t m o
end Go.Proofs.YtkaihbkfobiejaaGreatDoor.Sp
