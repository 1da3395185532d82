/- What the program's and the reference's functions on specs answer. -/
import Derived.Test.YtfaeodcapagjbaaCls
import Derived.Test.YtfaeodcapagjbaaPreM
import Derived.Test.YtfaeodcapagjbaaTlvL
import Derived.Test.YtfaeodcapagjbaaPx1
import Derived.Test.YtfaeodcapagjbaaPx12
import Derived.Test.YtfaeodcapagjbaaPx2
import Derived.Test.YtfaeodcapagjbaaPx4
namespace Go.Proofs.Ytfaeodcapagjbaa.Sp
open Go.RowKit Go.Proofs.YtfaeodcapagjbaaW.PrintWords Go.Proofs.YtfaeodcapagjbaaW.PrintLast Go.Proofs.YtfaeodcapagjbaaW.PrintMore Go.Proofs.Ytfaeodcapagjbaa.P
set_option linter.unusedVariables false
set_option linter.unusedSimpArgs false
/-- What is wrong with a spec; 0: nothing. -/
def specE (no c fo mi ma : Int) : Int :=
  if no < 2 ∨ 128 < no then 1 else if ¬ (1 ≤ c ∧ c ≤ 6) then 6 else if ¬ (1 ≤ fo ∧ fo ≤ 3) then 3
  else if mi < 1 ∨ ma < mi ∨ (if fo = 2 then 99 else 999) < ma ∨ (fo = 1 ∧ mi ≠ ma) then 5 else if fo = 1 ∧ c = 6 then 13 else 0
theorem specE_zero {no c fo mi ma : Int} (h : specE no c fo mi ma = 0) : (2 ≤ no ∧ no ≤ 128) ∧ (1 ≤ c ∧ c ≤ 6) ∧ (1 ≤ fo ∧ fo ≤ 3) ∧ 1 ≤ mi ∧ mi ≤ ma ∧ ma ≤ 999 ∧ (fo = 2 → ma ≤ 99) ∧ (fo = 1 → mi = ma) ∧ (fo = 1 → c ≠ 6) := by
  unfold specE at h
  by_cases h1 : no < 2 ∨ 128 < no
  · rw [if_pos h1] at h; cases h
  rw [if_neg h1] at h
  by_cases h2 : 1 ≤ c ∧ c ≤ 6
  · rw [if_neg (not_not_intro h2)] at h
    by_cases h3 : 1 ≤ fo ∧ fo ≤ 3
    · rw [if_neg (not_not_intro h3)] at h
      by_cases h4 : mi < 1 ∨ ma < mi ∨ (if fo = 2 then 99 else 999) < ma ∨ (fo = 1 ∧ mi ≠ ma)
      · rw [if_pos h4] at h; cases h
      rw [if_neg h4] at h
      by_cases h5 : fo = 1 ∧ c = 6
      · rw [if_pos h5] at h; cases h
      by_cases h6 : fo = 2
      · rw [if_pos h6] at h4; omega
      · rw [if_neg h6] at h4; omega
    · rw [if_pos h3] at h; cases h
  · rw [if_pos h2] at h; cases h
theorem j4 (k : Nat) (b : Bool) (no c fo mi ma : Int) : spec_Check.j4 (k + 1) b no c fo mi ma = some (if b = true then 5 else if fo = 1 ∧ c = 6 then 13 else 0) := by
  rw [spec_Check.j4]
  by_cases h1 : b = true <;> by_cases h2 : fo = 1 <;> by_cases h3 : c = 6 <;> simp [h1, h2, h3]
theorem j3 (k : Nat) (hk : 10 ≤ k) (b : Bool) (no c fo mi ma : Int) : spec_Check.j3 (k + 1) b no c fo mi ma = some (if b = true ∨ (fo ≠ 1 ∧ preMost fo < ma) then 5 else if fo = 1 ∧ c = 6 then 13 else 0) := by
  obtain ⟨k, rfl⟩ : ∃ m, k = m + 1 := ⟨k - 1, by omega⟩
  rw [spec_Check.j3, prefix_Most _ _ hk, Option.bind_some, j4, j4]
  by_cases h1 : b = true <;> by_cases h2 : fo = 1 <;> by_cases h3 : preMost fo < ma <;> simp [h1, h2, h3]
theorem j2 (k : Nat) (hk : 12 ≤ k) (b : Bool) (no c fo mi ma : Int) : spec_Check.j2 (k + 1) b no c fo mi ma = some (if b = true ∨ (fo = 1 ∧ mi ≠ ma) ∨ (fo ≠ 1 ∧ preMost fo < ma) then 5 else if fo = 1 ∧ c = 6 then 13 else 0) := by
  obtain ⟨k, rfl⟩ : ∃ m, k = m + 1 := ⟨k - 1, by omega⟩
  rw [spec_Check.j2, j3 _ (by omega), j3 _ (by omega)]
  by_cases h1 : b = true <;> by_cases h2 : fo = 1 <;> by_cases h3 : preMost fo < ma <;> by_cases h4 : mi = ma <;> simp [h1, h2, h3, h4]
theorem most_iff (fo ma : Int) (h : 1 ≤ fo ∧ fo ≤ 3) : (999 < ma ∨ (fo ≠ 1 ∧ preMost fo < ma)) ↔ (if fo = 2 then 99 else 999) < ma := by
  unfold preMost
  by_cases h2 : fo = 2
  · subst h2; simp; omega
  · by_cases h3 : fo = 3
    · subst h3; simp
    · have : fo = 1 := by omega
      subst this; simp
theorem spec_Check (no c fo mi ma : Int) (k : Nat) (hk : 20 ≤ k) : spec_Check.f k no c fo mi ma = some (specE no c fo mi ma) := by
  obtain ⟨k, rfl⟩ : ∃ m, k = m + 3 := ⟨k - 3, by omega⟩
  have e2 := j2 k (by omega)
  unfold specE spec_Check.f
  simp only [spec_Check.j0, class_Known, Option.bind_some, known_iff]
  by_cases h1 : no < 2 ∨ 128 < no
  · rw [if_pos h1]
    by_cases h0 : no < 2
    · simp [h0]
    · have : 128 < no := by omega
      simp [h0, this]
  rw [if_neg h1]
  have h1a : ¬ no < 2 := by omega
  have h1b : ¬ no > 128 := by omega
  by_cases h2 : 1 ≤ c ∧ c ≤ 6
  · rw [if_neg (not_not_intro h2), if_neg h1a, decide_eq_false h1b, decide_eq_true h2]
    simp only [Bool.false_eq_true, if_false, if_true]
    by_cases h3 : 1 ≤ fo ∧ fo ≤ 3
    · rw [if_neg (not_not_intro h3)]
      have h3a : ¬ fo < 1 := by omega
      have h3b : ¬ fo > 3 := by omega
      rw [if_neg h3a, decide_eq_false h3b]
      simp only [spec_Check.j1, Bool.false_eq_true, if_false]
      rw [e2, e2]
      have hm := most_iff fo ma h3
      by_cases g1 : mi < 1
      · rw [if_pos g1, if_pos (Or.inl rfl), if_pos (Or.inl g1)]
      · rw [if_neg g1]
        by_cases g2 : mi > ma
        · rw [if_pos g2, if_pos (Or.inl rfl), if_pos (Or.inr (Or.inl g2))]
        · rw [if_neg g2]
          congr 1
          have : (decide (ma > 999) = true ∨ (fo = 1 ∧ mi ≠ ma) ∨ (fo ≠ 1 ∧ preMost fo < ma)) ↔ (mi < 1 ∨ ma < mi ∨ (if fo = 2 then 99 else 999) < ma ∨ (fo = 1 ∧ mi ≠ ma)) := by
            rw [← hm, decide_eq_true_eq]
            constructor
            · rintro (h | h | h)
              · exact .inr (.inr (.inl (.inl h)))
              · exact .inr (.inr (.inr h))
              · exact .inr (.inr (.inl (.inr h)))
            · rintro (h | h | (h | h) | h)
              · exact absurd h g1
              · exact absurd h g2
              · exact .inl h
              · exact .inr (.inr h)
              · exact .inr (.inl h)
          simp only [this]
    · rw [if_pos h3]
      simp only [spec_Check.j1]
      by_cases h3a : fo < 1
      · rw [if_pos h3a]; simp
      · have h3b : fo > 3 := by omega
        rw [if_neg h3a, decide_eq_true h3b]; simp
  · rw [if_pos h2, if_neg h1a, decide_eq_false h1b, decide_eq_false h2]; simp
theorem r4 (k : Nat) (b : Bool) (no c fo mi ma : Int) : groatref11_Check.j4 (k + 1) b no c fo mi ma = some (if b = true then 5 else if fo = 1 ∧ c = 6 then 13 else 0) := by
  rw [groatref11_Check.j4]
  by_cases h1 : b = true <;> by_cases h2 : fo = 1 <;> by_cases h3 : c = 6 <;> simp [h1, h2, h3]
theorem r3 (k : Nat) (M no c fo mi ma : Int) : groatref11_Check.j3 (k + 2) M no c fo mi ma = some (if mi < 1 ∨ ma < mi ∨ M < ma ∨ (fo = 1 ∧ mi ≠ ma) then 5 else if fo = 1 ∧ c = 6 then 13 else 0) := by
  rw [groatref11_Check.j3, r4, r4, r4]
  by_cases h5 : mi = ma
  · subst h5
    by_cases h1 : mi < 1 <;> by_cases h2 : fo = 1 <;> by_cases h4 : M < mi <;> simp [h1, h2, h4]
  · by_cases h1 : mi < 1 <;> by_cases h2 : fo = 1 <;> by_cases h3 : ma < mi <;> by_cases h4 : M < ma <;> simp [h1, h2, h3, h4, h5]
theorem ref11_Check (no c fo mi ma : Int) (k : Nat) (hk : 20 ≤ k) : groatref11_Check.f k no c fo mi ma = some (specE no c fo mi ma) := by
  obtain ⟨k, rfl⟩ : ∃ m, k = m + 5 := ⟨k - 5, by omega⟩
  unfold specE groatref11_Check.f
  simp only [groatref11_Check.j0]
  by_cases h1 : no < 2 ∨ 128 < no
  · rw [if_pos h1]
    by_cases h0 : no < 2
    · simp [h0]
    · have : 128 < no := by omega
      simp [h0, this]
  rw [if_neg h1]
  have h1a : ¬ no < 2 := by omega
  have h1b : ¬ no > 128 := by omega
  rw [if_neg h1a, decide_eq_false h1b]
  simp only [Bool.false_eq_true, if_false, groatref11_Check.j1]
  by_cases h2 : 1 ≤ c ∧ c ≤ 6
  · have h2a : ¬ c < 1 := by omega
    have h2b : ¬ c > 6 := by omega
    rw [if_neg (not_not_intro h2), if_neg h2a, decide_eq_false h2b]
    simp only [Bool.false_eq_true, if_false, groatref11_Check.j2]
    by_cases h3 : 1 ≤ fo ∧ fo ≤ 3
    · rw [if_neg (not_not_intro h3)]
      have h3a : ¬ fo < 1 := by omega
      have h3b : ¬ fo > 3 := by omega
      rw [if_neg h3a, decide_eq_false h3b]
      simp only [Bool.false_eq_true, if_false]
      rw [r3, r3]
      by_cases g : fo = 2
      · rw [if_pos g]; simp only [g, if_true]
      · rw [if_neg g]; simp only [g, if_false]
    · rw [if_pos h3]
      by_cases h3a : fo < 1
      · rw [if_pos h3a]; simp
      · have h3b : fo > 3 := by omega
        rw [if_neg h3a, decide_eq_true h3b]; simp
  · rw [if_pos h2]
    by_cases h2a : c < 1
    · rw [if_pos h2a]; simp
    · have h2b : c > 6 := by omega
      rw [if_neg h2a, decide_eq_true h2b]; simp
/-- What is wrong with a text as a spec's value; 0: nothing. -/
noncomputable def specV (no c fo mi ma : Int) (l : List UInt8) : Int :=
  if specE no c fo mi ma ≠ 0 then 1 else if (l.length : Int) < mi ∨ ma < (l.length : Int) then 5 else if l.all (inC c) = false then 6 else if c = 6 ∧ tlvErr l ≠ 0 then 13 else 0
theorem spec_Value (no c fo mi ma : Int) (l : List UInt8) (k : Nat) (hk : 3000 ≤ k) : spec_Value.f k no c fo mi ma (sb l) = some (specV no c fo mi ma l) := by
  obtain ⟨k, rfl⟩ : ∃ m, k = m + 1 := ⟨k - 1, by omega⟩
  unfold spec_Value.f specV
  rw [spec_Check _ _ _ _ _ _ (by omega), Option.bind_some, size_sb]
  by_cases h0 : specE no c fo mi ma = 0
  · rw [if_pos h0, if_neg (not_not_intro h0)]
    simp only [spec_Value.j0]
    by_cases h1 : (l.length : Int) < mi
    · rw [if_pos h1, if_pos (Or.inl h1)]; simp
    · rw [if_neg h1]
      by_cases h2 : (l.length : Int) > ma
      · rw [decide_eq_true h2, if_pos rfl, if_pos (Or.inr h2)]
      · have hz := specE_zero h0
        have hl : l.length ≤ 999 := by omega
        rw [decide_eq_false h2, if_neg (by decide), if_neg (show ¬ ((l.length : Int) < mi ∨ ma < (l.length : Int)) by omega), class_First _ _ (by omega) _ (by omega), Option.bind_some]
        by_cases h3 : l.all (inC c) = false
        · rw [if_pos ((first_ge _ _ _).2 h3), if_pos h3]
        · rw [if_neg (fun h => h3 ((first_ge _ _ _).1 h)), if_neg h3]
          by_cases h4 : c = 6
          · obtain ⟨xs, p, ht⟩ := tlv_Get l (by omega) k (by omega)
            rw [if_pos h4, ht, Option.bind_some]
            by_cases h5 : tlvErr l = 0
            · simp [h5]
            · simp [h4, h5]
          · rw [if_neg h4]; simp [h4]
  · rw [if_neg h0, if_pos h0]
theorem ref11_Value (no c fo mi ma : Int) (l : List UInt8) (k : Nat) (hk : 3000 ≤ k) : groatref11_Value.f k no c fo mi ma (sb l) = some (specV no c fo mi ma l) := by
  obtain ⟨k, rfl⟩ : ∃ m, k = m + 1 := ⟨k - 1, by omega⟩
  unfold groatref11_Value.f specV
  rw [ref11_Check _ _ _ _ _ _ (by omega), Option.bind_some, size_sb]
  by_cases h0 : specE no c fo mi ma = 0
  · rw [if_pos h0, if_neg (not_not_intro h0)]
    simp only [groatref11_Value.j0]
    by_cases h1 : (l.length : Int) < mi
    · rw [if_pos h1, if_pos (Or.inl h1)]; simp
    · rw [if_neg h1]
      by_cases h2 : (l.length : Int) > ma
      · rw [decide_eq_true h2, if_pos rfl, if_pos (Or.inr h2)]
      · have hz := specE_zero h0
        have hl : l.length ≤ 999 := by omega
        rw [decide_eq_false h2, if_neg (by decide), if_neg (show ¬ ((l.length : Int) < mi ∨ ma < (l.length : Int)) by omega), ref04_First _ _ (by omega) _ (by omega), Option.bind_some]
        by_cases h3 : l.all (inC c) = false
        · rw [if_pos ((first_ge _ _ _).2 h3), if_pos h3]
        · rw [if_neg (fun h => h3 ((first_ge _ _ _).1 h)), if_neg h3]
          by_cases h4 : c = 6
          · obtain ⟨xs, p, ht⟩ := ref10_Get l (by omega) k (by omega)
            rw [if_pos h4, ht, Option.bind_some]
            by_cases h5 : tlvErr l = 0
            · simp [h5]
            · simp [h4, h5]
          · rw [if_neg h4]; simp [h4]
  · rw [if_neg h0, if_pos h0]
end Go.Proofs.Ytfaeodcapagjbaa.Sp
