/- Bytes cut off, in plain words. -/
import Derived.Test.YtjbhknfdfnilbaaNgf
namespace Go.Proofs.Ytjbhknfdfnilbaa.Sp
open Go Go.RowKit
set_option linter.unusedVariables false
set_option linter.unusedSimpArgs false
theorem put_size {st no c fo mi ma : Int} {l : List UInt8} (hs : st = 1 ∨ st = 2) (h : specV no c fo mi ma l = 0) (h1 : ¬ fo = 1) : (prePut st fo (l.length : Int)).2 = 0 ∧ (prePut st fo (l.length : Int)).1.length = preSize st fo := by
  have hl := specV_len h
  obtain ⟨h0, h2, h3, -⟩ := specV_zero h
  have hz := specE_zero h0
  have hk : preOk st fo = true := decide_eq_true ⟨hs, by omega⟩
  have hp : putNum (l.length : Int) fo = (sb (digs fo.toNat l.length), true) := by
    have := putNum_pos (n := l.length) (w := fo.toNat) (by omega) (by omega) (by
      rcases (show fo = 2 ∨ fo = 3 by omega) with h' | h'
      · subst h'; have := hz.2.2.2.2.2.2.1 rfl; show l.length < 10 ^ 2; omega
      · subst h'; show l.length < 10 ^ 3; omega)
    rw [show ((fo.toNat : Nat) : Int) = fo by omega] at this
    exact this
  have hok : (prePut st fo (l.length : Int)).2 = 0 := by
    unfold prePut
    rw [if_pos hk, hp]; rfl
  have hg := preGet_put [] [] hok
  obtain ⟨-, -, h4, -⟩ := prePut_get hg
  exact ⟨hok, by omega⟩
theorem cellGet_cut {st no c fo mi ma : Int} {l : List UInt8} (hs : st = 1 ∨ st = 2) (h : specV no c fo mi ma l = 0) (a : List UInt8) (k : Nat) (hk : k < (cellPut st no c fo mi ma l).1.length) : (cellGet st no c fo mi ma (a ++ (cellPut st no c fo mi ma l).1.take k) (a.length : Int)).2.2 = 2 := by
  have hl := specV_len h
  obtain ⟨h0, h1, h2, h3⟩ := specV_zero h
  have hz := specE_zero h0
  have hb := body_size st no c fo mi ma l h
  have hlen : (a ++ (cellPut st no c fo mi ma l).1.take k).length = a.length + k := by rw [List.length_append, List.length_take]; omega
  have take_cut : ∀ (B : List UInt8) (p : Nat), B.length < p + (cellBody (cellHow st c) l).length → (cellTake st no c fo mi ma B p l.length).2.2 = 2 := fun B p hp => by
    unfold cellTake
    rw [if_pos (by omega)]
  unfold cellGet
  rw [if_neg (not_not_intro ⟨hs, h0, by omega, by omega⟩)]
  by_cases c1 : fo = 1
  · have hm : mi.toNat = l.length := by have := hz.2.2.2.2.2.2.2.1 c1; omega
    rw [if_pos c1, hm, Int.toNat_natCast]
    refine take_cut _ _ ?_
    rw [hlen]
    unfold cellPut cellHead at hk
    rw [if_neg (not_not_intro hs), if_neg (not_not_intro h), if_pos c1] at hk
    dsimp only at hk
    rw [List.nil_append] at hk
    omega
  · obtain ⟨hok, hsz⟩ := put_size hs h c1
    have ep : (cellPut st no c fo mi ma l).1 = (prePut st fo (l.length : Int)).1 ++ cellBody (cellHow st c) l := by
      unfold cellPut cellHead
      rw [if_neg (not_not_intro hs), if_neg (not_not_intro h), if_neg c1]
    rw [if_neg c1]
    by_cases c2 : k < (prePut st fo (l.length : Int)).1.length
    · have hko : preOk st fo = true := decide_eq_true ⟨hs, by omega⟩
      have : preGet st fo (a ++ (cellPut st no c fo mi ma l).1.take k) (a.length : Int) = (0, 0, 2) := by
        unfold preGet
        rw [if_pos ⟨hko, by omega, by omega⟩, if_pos (by omega)]
      rw [this, if_pos (by decide)]
    · have e : a ++ (cellPut st no c fo mi ma l).1.take k = a ++ (prePut st fo (l.length : Int)).1 ++ (cellBody (cellHow st c) l).take (k - (prePut st fo (l.length : Int)).1.length) := by
        rw [ep, List.take_append, List.take_of_length_le (by omega), List.append_assoc]
      have hg := preGet_put a ((cellBody (cellHow st c) l).take (k - (prePut st fo (l.length : Int)).1.length)) hok
      rw [← e] at hg
      rw [hg]
      dsimp only
      rw [if_neg (by decide), if_neg (by omega), Int.toNat_natCast]
      refine take_cut _ _ ?_
      rw [ep, List.length_append] at hk
      omega
theorem decL_cut {st : Int} (hs : st = 1 ∨ st = 2) {s : List S5} : ∀ {l : List V} {p : Int} (a : List UInt8) (k : Nat), Rise s p l → k < (fieldsB st s l).length →
    (decL st s (a ++ (fieldsB st s l).take k) (l.map Prod.fst) (a.length : Int)).2.1 = 2 ∧ ∃ j, (decL st s (a ++ (fieldsB st s l).take k) (l.map Prod.fst) (a.length : Int)).1 = l.take j
  | [], p, a, k, h, hk => by simp [fieldsB] at hk
  | v :: m, p, a, k, h, hk => by
    cases h with
    | cons h1 h2 h3 =>
      have e : fieldsB st s (v :: m) = cellB st s v ++ fieldsB st s m := by
        unfold fieldsB
        rw [List.flatMap_cons]
      rw [e] at hk ⊢
      rw [List.map_cons, decL, if_neg (show ¬ (findS v.1 s).2 = false by rw [h2.1]; simp)]
      by_cases c : k < (cellB st s v).length
      · have hc := cellGet_cut hs h2.2 a k c
        have et : (cellB st s v ++ fieldsB st s m).take k = (cellB st s v).take k := by rw [List.take_append_of_le_length (by omega)]
        rw [et]
        have hc : (cellGet' st (findS v.1 s).1 (a ++ (cellB st s v).take k) (a.length : Int)).2.2 = 2 := hc
        rw [if_pos (by rw [hc]; decide), hc]
        exact ⟨rfl, 0, rfl⟩
      · have et : (cellB st s v ++ fieldsB st s m).take k = cellB st s v ++ (fieldsB st s m).take (k - (cellB st s v).length) := by
          rw [List.take_append, List.take_of_length_le (by omega)]
        rw [List.length_append] at hk
        obtain ⟨i1, j, i2⟩ := decL_cut hs (a ++ cellB st s v) (k - (cellB st s v).length) h3 (by omega)
        rw [List.append_assoc, List.length_append] at i1 i2
        rw [et, cellB_get hs h2 a _, if_neg (not_not_intro rfl)]
        dsimp only
        exact ⟨i1, j + 1, by rw [i2, sb_bl]; rfl⟩
theorem bitGet_cut {s : Int} (hs : s = 1 ∨ s = 2) {h l : Nat} (hh : h < 9223372036854775808) (p : List UInt8) (k : Nat) (hk : k < (enc8 s (bitRaw h l)).length) : (bitGet s (p ++ (enc8 s (bitRaw h l)).take k) (p.length : Int)).2.2 = 2 := by
  have hlen : (p ++ (enc8 s (bitRaw h l)).take k).length = p.length + k := by rw [List.length_append, List.length_take]; omega
  have w8 : ∀ t : List UInt8, t.length = 8 → (enc8 s t).length = if s = 1 then 16 else 8 := fun t ht => by rw [enc8_length, ht]; split <;> rfl
  have cut : ∀ (B : List UInt8) (i : Nat), B.length < i + (if s = 1 then 16 else 8) → (bitTake s B i).2.2 = 2 := fun B i hB => by
    unfold bitTake
    by_cases c : s = 1
    · rw [if_pos c] at hB ⊢
      rw [if_pos (by omega)]
    · rw [if_neg c] at hB ⊢
      rw [if_pos (by omega)]
  unfold bitGet
  rw [if_neg (show ¬ (¬ (s = 1 ∨ s = 2) ∨ (p.length : Int) < 0 ∨ _) from fun e => e.elim (fun e => e hs) (fun e => e.elim (by omega) (by rw [hlen]; omega))), Int.toNat_natCast]
  by_cases c1 : k < (if s = 1 then 16 else 8)
  · have := cut (p ++ (enc8 s (bitRaw h l)).take k) p.length (by omega)
    rw [if_pos (by rw [this]; decide), this]
  · unfold bitRaw at *
    by_cases c2 : l = 0
    · rw [if_pos c2, w8 _ (be8_length h)] at hk
      exact absurd hk c1
    · rw [if_neg c2] at *
      rw [enc8_append] at *
      have hw1 := w8 _ (be8_length (9223372036854775808 + h))
      have hw2 := w8 _ (be8_length l)
      have e : p ++ (enc8 s (be8 (9223372036854775808 + h)) ++ enc8 s (be8 l)).take k = p ++ (enc8 s (be8 (9223372036854775808 + h)) ++ (enc8 s (be8 l)).take (k - (enc8 s (be8 (9223372036854775808 + h))).length)) := by
        rw [List.take_append, List.take_of_length_le (by omega)]
      have c3 := cut (p ++ (enc8 s (be8 (9223372036854775808 + h)) ++ enc8 s (be8 l)).take k) (p.length + (enc8 s (be8 (9223372036854775808 + h))).length) (by rw [List.length_append] at hk; omega)
      rw [e] at c3 ⊢
      rw [bitTake_put s p _ _ (be8_length _), if_neg (not_not_intro rfl), nat8_be8 (by omega), if_neg (by omega)]
      dsimp only
      rw [if_pos (by rw [c3]; decide), c3]
/-- Bytes that are cut off anywhere. -/
theorem decM_cut {x : Int × Int × List S5} {t : List UInt8} {l : List V} (h : msgE x t l = (0, 0)) (n : Nat) (hn : n < (wireB x.1 x.2.2 t l).length) : (decM x ((wireB x.1 x.2.2 t l).take n)).2.1 = 2 ∧ ∃ j, (decM x ((wireB x.1 x.2.2 t l).take n)).1.2 = l.take j := by
  obtain ⟨⟨h1, h2, h3⟩, h4⟩ := (msgE_zero _ _ _).1.1 h
  have hs : x.1 = 1 ∨ x.1 = 2 := by
    unfold schemaE at h1
    by_cases c : x.1 = 1 ∨ x.1 = 2
    · exact c
    · rw [if_pos c] at h1; simp at h1
  have hT := typeB_length' hs h2
  have hB := bitsB_eq x.1 hs h4
  have hlen : ((wireB x.1 x.2.2 t l).take n).length = n := by rw [List.length_take]; omega
  unfold decM
  rw [if_neg (not_not_intro h1)]
  by_cases c1 : n < typeN x.1
  · have e : typeG x.1 x.2.1 ((wireB x.1 x.2.2 t l).take n) = ([], 0, 2) := by
      unfold typeG
      rw [if_pos (by omega)]
    rw [e, if_pos (by decide)]
    exact ⟨rfl, 0, rfl⟩
  · have e1 : (wireB x.1 x.2.2 t l).take n = typeB x.1 t ++ (bitsB x.1 l ++ fieldsB x.1 x.2.2 l).take (n - typeN x.1) := by
      unfold wireB
      rw [List.append_assoc, List.take_append, List.take_of_length_le (by omega), hT]
    rw [e1, typeG_put hs h2 h3, if_neg (not_not_intro rfl)]
    dsimp only
    by_cases c2 : n - typeN x.1 < (bitsB x.1 l).length
    · rw [List.take_append_of_le_length (by omega)]
      have := bitGet_cut hs (setV_low h4) (l := (setV l).2) (typeB x.1 t) (n - typeN x.1) (by rw [← hB]; exact c2)
      rw [← hB] at this
      rw [if_pos (by rw [this]; decide), this]
      exact ⟨rfl, 0, rfl⟩
    · rw [List.take_append, List.take_of_length_le (by omega)]
      have e2 := bitGet_put hs (setV_low h4) (setV_lt l).2 (typeB x.1 t) ((fieldsB x.1 x.2.2 l).take (n - typeN x.1 - (bitsB x.1 l).length))
      rw [← hB] at e2
      unfold wireB at hn
      rw [List.length_append, List.length_append] at hn
      obtain ⟨i1, j, i2⟩ := decL_cut hs (typeB x.1 t ++ bitsB x.1 l) (n - typeN x.1 - (bitsB x.1 l).length) h4 (by omega)
      rw [List.append_assoc, List.length_append] at i1 i2
      rw [e2, if_neg (not_not_intro rfl)]
      dsimp only
      rw [fromS_setV h4]
      exact ⟨i1, j, i2⟩
end Go.Proofs.Ytjbhknfdfnilbaa.Sp
