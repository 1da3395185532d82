/- Lengths ahead of fields, in plain words. -/
import Derived.Test.YtkhmdcllookjkaaNBcdS
namespace Go.Proofs.Ytkhmdcllookjkaa.Sp
open Go Go.RowKit
set_option linter.unusedVariables false
set_option linter.unusedSimpArgs false
def preOk (style form : Int) : Bool := decide ((style = 1 ∨ style = 2) ∧ (form = 2 ∨ form = 3))
def preSize (style form : Int) : Nat := if style = 2 then (form.toNat + 1) / 2 else form.toNat
def preMost (form : Int) : Int := if form = 2 then 99 else if form = 3 then 999 else 0
def prePut (style form n : Int) : List UInt8 × Int :=
  if preOk style form = true then (if (putNum n form).2 = true then ((if style = 2 then (bcdPut (bl (putNum n form).1)).1 else bl (putNum n form).1), 0) else ([], 5)) else ([], 1)
def preDigits (style form : Int) (s : List UInt8) : List UInt8 × Int := if style = 2 then ((bcdGet s form).1, (bcdGet s form).2.1) else (s, 0)
def preGet (style form : Int) (b : List UInt8) (at_ : Int) : Int × Int × Int :=
  if preOk style form = true ∧ 0 ≤ at_ ∧ at_ ≤ (b.length : Int) then
    (if (b.length : Int) - at_ < (preSize style form : Int) then (0, 0, 2)
     else if (preDigits style form ((b.drop at_.toNat).take (preSize style form))).2 = 0 then
       (if (getNum (preDigits style form ((b.drop at_.toNat).take (preSize style form))).1).2 = true then ((getNum (preDigits style form ((b.drop at_.toNat).take (preSize style form))).1).1, at_ + (preSize style form : Int), 0) else (0, 0, 3))
     else (0, 0, 3))
  else (0, 0, 1)
theorem putNum_pos {n w : Nat} (h1 : 1 ≤ w) (h2 : w ≤ 18) (h : n < 10 ^ w) : putNum (n : Int) (w : Int) = (sb (digs w n), true) := by
  unfold putNum
  rw [if_neg (by rintro (h' | h' | h' | h'); omega; omega; omega; exact h' h)]; rfl
theorem getNum_pos {l : List UInt8} (h1 : 1 ≤ l.length) (h2 : l.length ≤ 18) (h : l.all dig = true) : getNum l = (((num l : Nat) : Int), true) := by
  unfold getNum
  rw [if_neg (by rintro (h' | h' | h'); omega; omega; (rw [h] at h'; cases h'))]
theorem putNum_ok {n : Int} {w : Nat} (h : (putNum n (w : Int)).2 = true) : 0 ≤ n ∧ n.toNat < 10 ^ w ∧ 1 ≤ w ∧ w ≤ 18 ∧ (putNum n (w : Int)).1 = sb (digs w n.toNat) := by
  unfold putNum at h ⊢
  by_cases h1 : n < 0 ∨ (w : Int) < 1 ∨ 18 < (w : Int) ∨ ¬ n.toNat < 10 ^ (w : Int).toNat
  · rw [if_pos h1] at h; cases h
  · rw [if_neg h1]
    rw [Int.toNat_natCast] at *
    refine ⟨by omega, ?_, by omega, by omega, rfl⟩
    rcases Nat.lt_or_ge n.toNat (10 ^ w) with h2 | h2
    · exact h2
    · exact absurd (.inr (.inr (.inr (by omega)))) h1
theorem preOk_iff {style form : Int} (h : preOk style form = true) : (style = 1 ∨ style = 2) ∧ (form = 2 ∨ form = 3) := of_decide_eq_true h
/-- What is put is got. -/
theorem preGet_put {style form n : Int} (a c : List UInt8) (h : (prePut style form n).2 = 0) :
    preGet style form (a ++ (prePut style form n).1 ++ c) (a.length : Int) = (n, (a.length : Int) + ((prePut style form n).1.length : Int), 0) := by
  unfold prePut at h ⊢
  by_cases hk : preOk style form = true
  · rw [if_pos hk] at h ⊢
    by_cases hp : (putNum n form).2 = true
    · rw [if_pos hp] at h ⊢
      obtain ⟨hs, hf⟩ := preOk_iff hk
      obtain ⟨w, rfl, hw⟩ : ∃ w : Nat, form = (w : Int) ∧ (w = 2 ∨ w = 3) := by
        rcases hf with rfl | rfl
        · exact ⟨2, rfl, .inl rfl⟩
        · exact ⟨3, rfl, .inr rfl⟩
      obtain ⟨h0, hlt, hw1, hw2, he⟩ := putNum_ok hp
      have hdl := digs_length w n.toNat
      have hda := digs_all w n.toNat
      have hnum := num_digs w n.toNat hlt
      have hg : getNum (digs w n.toNat) = (n, true) := by rw [getNum_pos (by omega) (by omega) hda, hnum]; congr 1; omega
      rw [he]
      simp only [bl_sb]
      have hbp : bcdPut (digs w n.toNat) = (pack (even0 (digs w n.toNat)), true) := if_neg (by rintro (h' | h'); omega; (rw [hda] at h'; cases h'))
      have hgp : ∀ more, bcdGet (pack (even0 (digs w n.toNat)) ++ more) (w : Int) = (digs w n.toNat, 0, 0) := by
        intro more
        have := bcdGet_put (digs w n.toNat) more (by omega) hda
        rwa [hdl] at this
      have hpl : (pack (even0 (digs w n.toNat))).length = (w + 1) / 2 := by rw [pack_len, hdl]
      unfold preGet
      rw [if_pos ⟨hk, by omega, by simp; omega⟩, Int.toNat_natCast]
      rcases hs with rfl | rfl
      · have hsz : preSize 1 (w : Int) = w := rfl
        have e1 : ((a ++ digs w n.toNat ++ c).drop a.length).take w = digs w n.toNat := by
          rw [List.append_assoc, List.drop_left', List.take_left' hdl]; rfl
        have e2 : (1 : Int) = 2 ↔ False := by simp
        simp only [e2, if_false, hsz]
        rw [if_neg (by simp [hdl]; omega)]
        simp only [preDigits, e2, if_false]
        rw [e1, hg, hdl]; simp
      · have hsz : preSize 2 (w : Int) = (w + 1) / 2 := rfl
        have e1 : ((a ++ pack (even0 (digs w n.toNat)) ++ c).drop a.length).take ((w + 1) / 2) = pack (even0 (digs w n.toNat)) := by
          rw [List.append_assoc, List.drop_left', List.take_left' hpl]; rfl
        simp only [if_true, hsz, hbp]
        rw [if_neg (by simp [hpl]; omega)]
        simp only [preDigits, if_true]
        rw [e1]
        have := hgp []
        rw [List.append_nil] at this
        rw [this]
        simp only [if_true]
        rw [hg, hpl]; simp
    · rw [if_neg hp] at h; cases h
  · rw [if_neg hk] at h; cases h
/-- What is got is put as it was. -/
theorem prePut_get {style form n next : Int} {b : List UInt8} {at_ : Int} (h : preGet style form b at_ = (n, next, 0)) :
    prePut style form n = ((b.drop at_.toNat).take (preSize style form), 0) ∧ 0 ≤ at_ ∧ next = at_ + (preSize style form : Int) ∧ next ≤ (b.length : Int) ∧ 0 ≤ n ∧ n ≤ preMost form ∧ preOk style form = true := by
  unfold preGet at h
  by_cases hk : preOk style form = true ∧ 0 ≤ at_ ∧ at_ ≤ (b.length : Int)
  · rw [if_pos hk] at h
    obtain ⟨hk, h0, hl⟩ := hk
    by_cases h1 : (b.length : Int) - at_ < (preSize style form : Int)
    · rw [if_pos h1] at h; simp at h
    · rw [if_neg h1] at h
      obtain ⟨hs, hf⟩ := preOk_iff hk
      obtain ⟨w, rfl, hw⟩ : ∃ w : Nat, form = (w : Int) ∧ (w = 2 ∨ w = 3) := by
        rcases hf with rfl | rfl
        · exact ⟨2, rfl, .inl rfl⟩
        · exact ⟨3, rfl, .inr rfl⟩
      obtain ⟨s, hse⟩ : ∃ s, s = (b.drop at_.toNat).take (preSize style (w : Int)) := ⟨_, rfl⟩
      have hsl : s.length = preSize style (w : Int) := by rw [hse, List.length_take, List.length_drop]; omega
      rw [← hse] at h ⊢
      by_cases h2 : (preDigits style (w : Int) s).2 = 0
      · rw [if_pos h2] at h
        by_cases h3 : (getNum (preDigits style (w : Int) s).1).2 = true
        · rw [if_pos h3] at h
          simp only [Prod.mk.injEq, and_true] at h
          obtain ⟨hn, hnext⟩ := h
          -- the digits that stand there
          have key : ∃ d : List UInt8, (preDigits style (w : Int) s).1 = d ∧ d.length = w ∧ d.all dig = true ∧ (if style = 2 then (bcdPut d).1 else d) = s := by
            rcases hs with rfl | rfl
            · have e2 : (1 : Int) = 2 ↔ False := by simp
              have e3 : preDigits 1 (w : Int) s = (s, 0) := by simp [preDigits]
              rw [e3] at h3 ⊢
              refine ⟨s, rfl, hsl, ?_, by simp⟩
              unfold getNum at h3
              by_cases hc : s.length < 1 ∨ 18 < s.length ∨ s.all dig = false
              · rw [if_pos hc] at h3; cases h3
              · cases hd : s.all dig with
                | true => rfl
                | false => exact absurd (.inr (.inr hd)) hc
            · have e3 : preDigits 2 (w : Int) s = ((bcdGet s (w : Int)).1, (bcdGet s (w : Int)).2.1) := by simp [preDigits]
              rw [e3] at h2 ⊢
              have h' : bcdGet s (w : Int) = ((bcdGet s (w : Int)).1, 0, (bcdGet s (w : Int)).2.2) := by rw [← h2]
              obtain ⟨-, -, -, gl, glen, gd, gp⟩ := bcdGet_ok h'
              rw [Int.toNat_natCast] at gl glen gp
              refine ⟨(bcdGet s (w : Int)).1, rfl, glen, gd, ?_⟩
              have hbp : bcdPut (bcdGet s (w : Int)).1 = (pack (even0 (bcdGet s (w : Int)).1), true) := if_neg (by rintro (h' | h'); omega; (rw [gd] at h'; cases h'))
              rw [if_pos rfl, hbp]
              show pack _ = s
              rw [gp, List.take_of_length_le]
              rw [hsl]; show (w + 1) / 2 ≤ _; omega
          obtain ⟨d, hd1, hd2, hd3, hd4⟩ := key
          rw [hd1, getNum_pos (by omega) (by omega) hd3] at hn
          have hlt := num_lt d hd3
          rw [hd2] at hlt
          subst hn
          have hp : putNum ((num d : Nat) : Int) (w : Int) = (sb d, true) := by rw [putNum_pos (by omega) (by omega) hlt, digs_num w d hd2 hd3]
          refine ⟨?_, h0, hnext.symm, by omega, by omega, ?_, hk⟩
          · unfold prePut
            rw [if_pos hk, hp]
            simp only [if_true, bl_sb]
            rw [hd4]
          · rcases hw with rfl | rfl
            · show _ ≤ (99 : Int); omega
            · show _ ≤ (999 : Int); omega
        · rw [if_neg h3] at h; simp at h
      · rw [if_neg h2] at h; simp at h
  · rw [if_neg hk] at h; simp at h
theorem preGet_no {style form : Int} {b : List UInt8} {at_ : Int} (h : (preGet style form b at_).2.2 ≠ 0) : (preGet style form b at_).1 = 0 ∧ (preGet style form b at_).2.1 = 0 := by
  unfold preGet at h ⊢
  split
  · rename_i h1
    rw [if_pos h1] at h
    split
    · exact ⟨rfl, rfl⟩
    · rename_i h2
      rw [if_neg h2] at h
      split
      · rename_i h3
        rw [if_pos h3] at h
        split
        · rename_i h4
          rw [if_pos h4] at h; exact absurd rfl h
        · exact ⟨rfl, rfl⟩
      · exact ⟨rfl, rfl⟩
  · exact ⟨rfl, rfl⟩
end Go.Proofs.Ytkhmdcllookjkaa.Sp
