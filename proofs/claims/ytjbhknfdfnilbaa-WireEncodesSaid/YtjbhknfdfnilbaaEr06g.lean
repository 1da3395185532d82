/- What the reference's Get of bit maps answers, and its Put of a set. -/
import Derived.Test.YtjbhknfdfnilbaaEr06
namespace Go.Proofs.Ytjbhknfdfnilbaa.Xe
open Go Go.RowKit Go.Proofs.Ytjbhknfdfnilbaa.Sp
set_option linter.unusedVariables false
set_option linter.unusedSimpArgs false
set_option maxRecDepth 100000
theorem nlst_length (x i : Nat) : (nlst x i).length ≤ 64 := lst_length _ _ _
theorem in_nlst (x i n : Nat) : isIn (nlst x i) n = (decide (i ≤ n ∧ n < i + 64) && x.testBit (63 - (n - i))) := by
  unfold isIn nlst
  rw [← Bool.decide_coe (x.testBit (63 - (n - i))), ← Bool.decide_and]
  exact decide_eq_decide.2 (mem_lst _ _ _ _)
theorem in_append (L M : List Int) (n : Nat) : isIn (L ++ M) n = (isIn L n || isIn M n) := by
  unfold isIn
  rw [← Bool.decide_or]
  exact decide_eq_decide.2 List.mem_append
theorem nlst_nil {x i : Nat} (hx : x < 18446744073709551616) : nlst x i = [] ↔ x = 0 := by
  unfold nlst
  rw [lst_nil, bits_zero hx]
  constructor
  · intro h j hj
    have := h j hj
    rwa [show i + j - i = j by omega] at this
  · intro h j hj
    rw [show i + j - i = j by omega]
    exact h j hj
def rest (x : Nat) : List Int := lst (fun n => x.testBit (63 - (n - 1))) 2 63
theorem nlst_one {x : Nat} (hx : x < 18446744073709551616) : nlst x 1 = (if 9223372036854775808 ≤ x then [1] else []) ++ rest x := by
  unfold nlst
  rw [lst_cons, show 63 - (1 - 1) = 63 from rfl, top_iff hx]
  simp only [decide_eq_true_eq]; rfl
theorem in_rest (x n : Nat) : isIn (rest x) n = (decide (2 ≤ n ∧ n < 65) && x.testBit (63 - (n - 1))) := by
  unfold isIn rest
  rw [← Bool.decide_coe (x.testBit (63 - (n - 1))), ← Bool.decide_and]
  exact decide_eq_decide.2 (mem_lst _ _ _ _)
theorem head_test {x : Nat} (hx : x < 18446744073709551616) : (if ((nlst x 1).length : Int) = 0 then some true else ((lget (nlst x 1) 0).bind fun b => some (decide ¬ b = 1))) = some (decide (x < 9223372036854775808)) := by
  rw [nlst_one hx]
  by_cases h : 9223372036854775808 ≤ x
  · rw [if_pos h, if_neg (by simp only [List.length_append, List.length_cons, List.length_nil]; omega), decide_eq_false (by omega)]; rfl
  · rw [if_neg h, List.nil_append, decide_eq_true (by omega : x < 9223372036854775808)]
    cases hr : rest x with
    | nil => rfl
    | cons a m =>
      have ha : ¬ a = 1 := by
        rintro rfl
        have : isIn (rest x) 1 = true := decide_eq_true (by rw [hr]; exact List.mem_cons_self ..)
        rw [in_rest] at this; simp at this
      rw [if_neg (by simp only [List.length_cons]; omega)]
      show some (decide ¬ a = 1) = _
      simp [ha]
theorem half_nil (i : Nat) : hor (isIn []) i 64 = 0 := hor_64 (by decide) fun j _ => by simp [isIn]
theorem half_one {x : Nat} (hx : x < 18446744073709551616) : hor (isIn (nlst x 1)) 1 64 = x ∧ hor (isIn (nlst x 1)) 65 64 = 0 :=
  ⟨hor_64 hx fun j hj => by rw [in_nlst, decide_eq_true (by omega), Bool.true_and, show 1 + j - 1 = j by omega], hor_64 (by decide) fun j hj => by rw [in_nlst, decide_eq_false (by omega)]; simp⟩
theorem half_two {x y : Nat} (hy : y < 18446744073709551616) : hor (isIn (rest x ++ nlst y 65)) 1 64 = x % 9223372036854775808 ∧ hor (isIn (rest x ++ nlst y 65)) 65 64 = y := by
  constructor
  · refine hor_64 (by omega) fun j hj => ?_
    have := Nat.testBit_mod_two_pow x 63 (63 - j)
    rw [show (2 : Nat) ^ 63 = 9223372036854775808 from rfl] at this
    rw [in_append, in_rest, in_nlst, this, decide_eq_false (p := 65 ≤ 1 + j ∧ 1 + j < 65 + 64) (by omega), Bool.false_and, Bool.or_false, show 1 + j - 1 = j by omega]
    congr 1
    exact decide_eq_decide.2 (by omega)
  · refine hor_64 hy fun j hj => ?_
    rw [in_append, in_rest, in_nlst, decide_eq_false (p := 2 ≤ 65 + j ∧ 65 + j < 65) (by omega), Bool.false_and, Bool.false_or, decide_eq_true (by omega), Bool.true_and, show 65 + j - 65 = j by omega]
theorem bitTake_w {s : Int} {l : List UInt8} {i : Nat} (h : (bitTake s l i).2.2 = 0) : (bitTake s l i).2.1 = i + (if s = 1 then 16 else 8) := by
  unfold bitTake at h ⊢
  by_cases h1 : s = 1
  · simp only [if_pos h1] at h ⊢
    by_cases h2 : l.length < i + 16
    · rw [if_pos h2] at h; cases h
    · rw [if_neg h2] at h ⊢
      by_cases h3 : (hexGet ((l.drop i).take 16)).2.2 = true
      · rw [if_pos h3]
      · rw [if_neg h3] at h; cases h
  · simp only [if_neg h1] at h ⊢
    by_cases h2 : l.length < i + 8
    · rw [if_pos h2] at h; cases h
    · rw [if_neg h2]
/-- What stands behind the first half, by the width of a half. -/
theorem lst_asc (p : Nat → Bool) : ∀ (c i : Nat), (lst p i c).Pairwise (· < ·) ∧ ∀ n ∈ lst p i c, (i : Int) ≤ n ∧ n < ((i + c : Nat) : Int)
  | 0, i => ⟨List.Pairwise.nil, fun n hn => (by cases hn)⟩
  | c + 1, i => by
    obtain ⟨h1, h2⟩ := lst_asc p c (i + 1)
    rw [lst_cons]
    split
    · refine ⟨List.Pairwise.cons (fun x hx => by have := (h2 x hx).1; omega) h1, fun n hn => ?_⟩
      rcases List.mem_cons.1 hn with rfl | hn
      · omega
      · have := h2 n hn; omega
    · exact ⟨h1, fun n hn => by have := h2 n hn; omega⟩
/-- Numbers that rise. -/
def Asc6 (L : List Int) : Prop := L.Pairwise (· < ·) ∧ ∀ n ∈ L, 1 ≤ n ∧ n ≤ 128
theorem asc6_nil : Asc6 [] := ⟨List.Pairwise.nil, fun n hn => (by cases hn)⟩
theorem asc6_one (x : Nat) : Asc6 (nlst x 1) := by
  obtain ⟨h1, h2⟩ := lst_asc (fun n => x.testBit (63 - (n - 1))) 64 1
  exact ⟨h1, fun n hn => by have := h2 n hn; omega⟩
theorem asc6_two (x y : Nat) : Asc6 (rest x ++ nlst y 65) := by
  obtain ⟨h1, h2⟩ := lst_asc (fun n => x.testBit (63 - (n - 1))) 63 2
  obtain ⟨h3, h4⟩ := lst_asc (fun n => y.testBit (63 - (n - 65))) 64 65
  refine ⟨List.pairwise_append.2 ⟨h1, h3, fun a ha b hb => by have := h2 a ha; have := h4 b hb; omega⟩, fun n hn => ?_⟩
  rcases List.mem_append.1 hn with hn | hn
  · have := h2 n hn; omega
  · have := h4 n hn; omega
theorem get_tail (s : Int) (l : List UInt8) (hl : l.length ≤ 70368744177664) (a : Nat) (ha : a ≤ l.length) (w w2 : Int) (v : Nat) (hv : v = if s = 1 then 16 else 8) (hw : w = ((a + v : Nat) : Int)) (hw2 : w2 = ((a + v + v : Nat) : Int)) :
    ∃ L : List Int, ((groatref06_part.f (s, sb l, (a : Int), 1)).bind fun b1 =>
     (if ¬Prod.snd b1 = 0 then (some (([], 0, Prod.snd b1)))
     else ((((if (↑(List.length (Prod.fst b1)) : Int) = 0 then (some true)
       else ((lget (Prod.fst b1) 0).bind fun b2 =>
        (some (decide ¬b2 = 1)))) : Option Bool)).bind fun b3 =>
      (if b3 = true then (some ((Prod.fst b1, w, 0)))
      else ((groatref06_part.f (s, sb l, w, 65)).bind fun b4 =>
       (if ¬Prod.snd b4 = 0 then (some (([], 0, Prod.snd b4)))
       else (if (↑(List.length (Prod.fst b4)) : Int) = 0 then (some (([], 0, 8)))
        else ((lsub (Prod.fst b1) 1 (↑(List.length (Prod.fst b1)) : Int)).bind fun b5 =>
         ((lcat 8 [] b5).bind fun b6 =>
         ((lcat 8 b6 (Prod.fst b4)).bind fun b7 =>
         (some ((b7, w2, 0)))))))))))) : Option (List Int × Int × Int)) =
      some (L, ((if (bitTake s l a).2.2 ≠ 0 then ((0, 0), 0, (bitTake s l a).2.2)
  else if nat8 (bitTake s l a).1 < 9223372036854775808 then ((nat8 (bitTake s l a).1, 0), (bitTake s l a).2.1, 0)
  else if (bitTake s l (bitTake s l a).2.1).2.2 ≠ 0 then ((0, 0), 0, (bitTake s l (bitTake s l a).2.1).2.2)
  else if nat8 (bitTake s l (bitTake s l a).2.1).1 = 0 then ((0, 0), 0, 8)
  else ((nat8 (bitTake s l a).1 % 9223372036854775808, nat8 (bitTake s l (bitTake s l a).2.1).1), (bitTake s l (bitTake s l a).2.1).2.1, 0) : (Nat × Nat) × Nat × Int).2.1 : Int), (if (bitTake s l a).2.2 ≠ 0 then ((0, 0), 0, (bitTake s l a).2.2)
  else if nat8 (bitTake s l a).1 < 9223372036854775808 then ((nat8 (bitTake s l a).1, 0), (bitTake s l a).2.1, 0)
  else if (bitTake s l (bitTake s l a).2.1).2.2 ≠ 0 then ((0, 0), 0, (bitTake s l (bitTake s l a).2.1).2.2)
  else if nat8 (bitTake s l (bitTake s l a).2.1).1 = 0 then ((0, 0), 0, 8)
  else ((nat8 (bitTake s l a).1 % 9223372036854775808, nat8 (bitTake s l (bitTake s l a).2.1).1), (bitTake s l (bitTake s l a).2.1).2.1, 0) : (Nat × Nat) × Nat × Int).2.2) ∧ L.length ≤ 1000 ∧ (hor (isIn L) 1 64, hor (isIn L) 65 64) = (if (bitTake s l a).2.2 ≠ 0 then ((0, 0), 0, (bitTake s l a).2.2)
  else if nat8 (bitTake s l a).1 < 9223372036854775808 then ((nat8 (bitTake s l a).1, 0), (bitTake s l a).2.1, 0)
  else if (bitTake s l (bitTake s l a).2.1).2.2 ≠ 0 then ((0, 0), 0, (bitTake s l (bitTake s l a).2.1).2.2)
  else if nat8 (bitTake s l (bitTake s l a).2.1).1 = 0 then ((0, 0), 0, 8)
  else ((nat8 (bitTake s l a).1 % 9223372036854775808, nat8 (bitTake s l (bitTake s l a).2.1).1), (bitTake s l (bitTake s l a).2.1).2.1, 0) : (Nat × Nat) × Nat × Int).1 ∧ Asc6 L := by
  have p1 := groatref06_part s l hl a ha 1 (by omega)
  have p1 : groatref06_part.f (s, sb l, (a : Int), 1) = _ := p1
  rw [p1, Option.bind_some]
  by_cases c1 : (bitTake s l a).2.2 = 0
  · rw [if_pos c1, if_neg (show ¬ ¬ (nlst (nat8 (bitTake s l a).1) 1, (0 : Int)).2 = 0 from fun e => e rfl)]
    rw [if_neg (show ¬ (bitTake s l a).2.2 ≠ 0 from fun e => e c1)]
    have w1 := bitTake_w c1
    rw [← hv] at w1
    obtain ⟨t1, -, -⟩ := bitTake_ok ha c1
    rw [w1] at t1 ⊢
    have x1 := nat8_lt (bitTake_len s l a)
    generalize nat8 (bitTake s l a).1 = x at *
    dsimp only
    rw [head_test x1, Option.bind_some]
    by_cases c2 : x < 9223372036854775808
    · rw [if_pos (decide_eq_true c2), if_pos c2, hw]
      exact ⟨_, rfl, by have := nlst_length x 1; omega, by rw [(half_one x1).1, (half_one x1).2], asc6_one x⟩
    · rw [if_neg (by simp [c2]), if_neg c2, hw]
      have p2 := groatref06_part s l hl (a + v) t1 65 (by omega)
      have p2 : groatref06_part.f (s, sb l, ((a + v : Nat) : Int), 65) = _ := p2
      rw [p2, Option.bind_some]
      by_cases c3 : (bitTake s l (a + v)).2.2 = 0
      · rw [if_pos c3, if_neg (show ¬ ¬ (nlst (nat8 (bitTake s l (a + v)).1) 65, (0 : Int)).2 = 0 from fun e => e rfl)]
        rw [if_neg (show ¬ (bitTake s l (a + v)).2.2 ≠ 0 from fun e => e c3)]
        have w3 := bitTake_w c3
        rw [← hv] at w3
        rw [w3]
        have y1 := nat8_lt (bitTake_len s l (a + v))
        generalize nat8 (bitTake s l (a + v)).1 = y at *
        dsimp only
        have ny := nlst_nil (i := 65) y1
        by_cases c4 : y = 0
        · rw [if_pos (by rw [ny.2 c4]; rfl), if_pos c4]
          exact ⟨_, rfl, by simp, by rw [half_nil, half_nil], asc6_nil⟩
        · have hn : ¬ nlst y 65 = [] := fun e => c4 (ny.1 e)
          have hx := nlst_one x1
          rw [if_pos (by omega)] at hx
          have hr : (rest x).length ≤ 63 := lst_length _ _ _
          have hs : lsub (nlst x 1) 1 ((nlst x 1).length : Int) = some (rest x) := by
            unfold lsub
            rw [hx, if_pos (by simp; omega), Int.toNat_natCast, List.take_length]; rfl
          have l2 := nlst_length y 65
          rw [if_neg (by intro e; exact hn (List.eq_nil_of_length_eq_zero (by omega))), if_neg c4, hs, Option.bind_some, lcat_ok _ _ _ (by simp only [List.length_nil]; omega), Option.bind_some, List.nil_append, lcat_ok _ _ _ (by omega), Option.bind_some, hw2]
          exact ⟨_, rfl, by rw [List.length_append]; omega, by rw [(half_two y1).1, (half_two y1).2], asc6_two x y⟩
      · rw [if_neg c3, if_pos (show ¬ (([] : List Int), (bitTake s l (a + v)).2.2).2 = 0 from c3), if_pos (show (bitTake s l (a + v)).2.2 ≠ 0 from c3)]
        exact ⟨_, rfl, by simp, by rw [half_nil, half_nil], asc6_nil⟩
  · rw [if_neg c1, if_pos (show ¬ (([] : List Int), (bitTake s l a).2.2).2 = 0 from c1), if_pos (show (bitTake s l a).2.2 ≠ 0 from c1)]
    exact ⟨_, rfl, by simp, by rw [half_nil, half_nil], asc6_nil⟩
theorem groatref06_Get (s : Int) (l : List UInt8) (hl : l.length ≤ 70368744177664) (a : Int) : ∃ L : List Int, groatref06_Get.f (s, sb l, a) = some (L, ((bitGet s l a).2.1 : Int), (bitGet s l a).2.2) ∧ L.length ≤ 1000 ∧ (hor (isIn L) 1 64, hor (isIn L) 65 64) = (bitGet s l a).1 ∧ Asc6 L := by
  have e0 : ∀ b : Bool, groatref06_Get.f (s, sb l, a) = groatref06_Get.f (s, sb l, a) := fun _ => rfl
  have hz : (hor (isIn []) 1 64, hor (isIn []) 65 64) = ((0, 0) : Nat × Nat) := by rw [half_nil, half_nil]
  simp only [groatref06_Get.f, size_sb]
  unfold bitGet
  by_cases c1 : ¬ (s = 1 ∨ s = 2) ∨ a < 0 ∨ (l.length : Int) < a
  · have e : (((if ¬s = 1 then (if ¬s = 2 then (some true)
    else (if a < 0 then (some true)
     else (some (decide (a > (l.length : Int))))))
   else (if a < 0 then (some true)
    else (some (decide (a > (l.length : Int)))))) : Option Bool)) = some true := by
      repeat' split
      all_goals first | rfl | (congr 1; exact decide_eq_true (by omega))
    rw [e, Option.bind_some, if_pos rfl, if_pos c1]
    exact ⟨_, rfl, by simp, hz, asc6_nil⟩
  · have e : (((if ¬s = 1 then (if ¬s = 2 then (some true)
    else (if a < 0 then (some true)
     else (some (decide (a > (l.length : Int))))))
   else (if a < 0 then (some true)
    else (some (decide (a > (l.length : Int)))))) : Option Bool)) = some false := by
      repeat' split
      all_goals first | (exfalso; omega) | (congr 1; exact decide_eq_false (by omega))
    rw [e, Option.bind_some, if_neg (by simp), if_neg c1]
    obtain ⟨a, rfl⟩ := Int.eq_ofNat_of_zero_le (show 0 ≤ a by omega)
    rw [Int.toNat_natCast]
    by_cases h1 : s = 1
    · rw [if_pos h1]
      exact get_tail s l hl a (by omega) _ _ 16 (by rw [if_pos h1]) (by rw [wrap_id (by omega) (by omega)]; omega) (by rw [wrap_id (by omega) (by omega)]; omega)
    · rw [if_neg h1]
      exact get_tail s l hl a (by omega) _ _ 8 (by rw [if_neg h1]) (by rw [wrap_id (by omega) (by omega)]; omega) (by rw [wrap_id (by omega) (by omega)]; omega)
/-- What the reference puts for a set is what the program puts. -/
theorem in_flst (h l n : Nat) : isIn (flst h l) n = (decide (1 ≤ n ∧ n < 129) && fhas h l (n : Int)) := by
  unfold isIn flst
  rw [← Bool.decide_coe (fhas h l (n : Int)), ← Bool.decide_and]
  exact decide_eq_decide.2 (mem_lst (fun n => fhas h l (n : Int)) 1 128 n)
theorem fhas_lo (h l j : Nat) (hj : j < 64) : fhas h l ((1 + j : Nat) : Int) = h.testBit (63 - j) := by
  unfold fhas
  rw [if_neg (by omega), if_pos (by omega), show (64 - ((1 + j : Nat) : Int)).toNat = 63 - j by omega]
theorem fhas_hi (h l j : Nat) (hj : j < 64) : fhas h l ((65 + j : Nat) : Int) = l.testBit (63 - j) := by
  unfold fhas
  rw [if_neg (by omega), if_neg (by omega), show (128 - ((65 + j : Nat) : Int)).toNat = 63 - j by omega]
theorem refPut_eq (s : Int) (h l : Nat) (hh : h < 18446744073709551616) (hl : l < 18446744073709551616) : refPut s (flst h l) = ((bitPut s h l).1, decide ((bitPut s h l).2 = 0)) := by
  have m1 : (1 : Int) ∈ flst h l ↔ 9223372036854775808 ≤ h := by
    have := in_flst h l 1
    have f := fhas_lo h l 0 (by decide)
    rw [show ((1 + 0 : Nat) : Int) = ((1 : Nat) : Int) from rfl, top_iff hh] at f
    rw [f, decide_eq_true (by omega), Bool.true_and] at this
    exact decide_eq_decide.1 this
  have e1 : hor (isIn (flst h l)) 1 64 = h := hor_64 hh fun j hj => by rw [in_flst, decide_eq_true (by omega), Bool.true_and, fhas_lo h l j hj]
  have e2 : hor (isIn (flst h l)) 65 64 = l := hor_64 hl fun j hj => by rw [in_flst, decide_eq_true (by omega), Bool.true_and, fhas_hi h l j hj]
  unfold refPut bitPut
  by_cases c : ¬ (s = 1 ∨ s = 2) ∨ 9223372036854775808 ≤ h
  · rw [if_pos c, if_pos (c.imp id m1.2)]; rfl
  · rw [if_neg c, if_neg fun e => c (e.imp id m1.1)]
    have hh' : h < 9223372036854775808 := by omega
    have e3 : hor (isIn ([1] ++ flst h l)) 1 64 = 9223372036854775808 + h := hor_64 (by omega) fun j hj => by
      rw [in_append, in_flst, decide_eq_true (by omega), Bool.true_and, fhas_lo h l j hj]
      rcases Nat.eq_zero_or_pos j with rfl | hj0
      · rw [top_iff (show 9223372036854775808 + h < 18446744073709551616 by omega), decide_eq_true (by omega : 9223372036854775808 ≤ 9223372036854775808 + h)]; rfl
      · have : isIn [1] (1 + j) = false := by
          unfold isIn
          exact decide_eq_false (by simp; omega)
        rw [this, Bool.false_or, show 9223372036854775808 + h = 2 ^ 63 + h from rfl, Nat.testBit_two_pow_add_gt (by omega)]
    unfold rawR bitRaw enc8
    rw [e1, e2, e3]; rfl
end Go.Proofs.Ytjbhknfdfnilbaa.Xe
