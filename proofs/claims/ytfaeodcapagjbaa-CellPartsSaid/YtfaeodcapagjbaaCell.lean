/- What the program's cell.Put and cell.Get answer. -/
import Derived.Test.YtfaeodcapagjbaaSpec
import Derived.Test.YtfaeodcapagjbaaPreP
import Derived.Test.YtfaeodcapagjbaaPreG
import Derived.Test.YtfaeodcapagjbaaBcd
import Derived.Test.YtfaeodcapagjbaaHexa
import Derived.Test.YtfaeodcapagjbaaPx5
import Derived.Test.YtfaeodcapagjbaaPx6
import Derived.Test.YtfaeodcapagjbaaPx8
namespace Go.Proofs.Ytfaeodcapagjbaa.Sp
open Go.RowKit Go.Proofs.YtfaeodcapagjbaaW.PrintWords Go.Proofs.YtfaeodcapagjbaaW.PrintLast Go.Proofs.YtfaeodcapagjbaaW.PrintMore Go.Proofs.Ytfaeodcapagjbaa.P
set_option linter.unusedVariables false
set_option linter.unusedSimpArgs false
def cellHow (st c : Int) : Int := if st = 2 ∧ c = 1 then 1 else if st = 1 ∧ (c = 5 ∨ c = 6) then 2 else 0
def cellBody (h : Int) (l : List UInt8) : List UInt8 := if h = 1 then (bcdPut l).1 else if h = 2 then hexPut l else l
def cellHead (st fo : Int) (n : Nat) : List UInt8 := if fo = 1 then [] else (prePut st fo (n : Int)).1
noncomputable def cellPut (st no c fo mi ma : Int) (l : List UInt8) : List UInt8 × Int :=
  if ¬ (st = 1 ∨ st = 2) then ([], 1) else if specV no c fo mi ma l ≠ 0 then ([], specV no c fo mi ma l) else (cellHead st fo l.length ++ cellBody (cellHow st c) l, 0)
def cellSize (h : Int) (n : Nat) : Nat := if h = 1 then (n + 1) / 2 else if h = 2 then 2 * n else n
def cellText (h : Int) (raw : List UInt8) (n : Int) : List UInt8 × Int := if h = 1 then ((bcdGet raw n).1, (bcdGet raw n).2.1) else if h = 2 then ((hexGet raw).1, if (hexGet raw).2.2 = true then 0 else 3) else (raw, 0)
noncomputable def cellTake (st no c fo mi ma : Int) (b : List UInt8) (a n : Nat) : List UInt8 × Int × Int :=
  if (b.length : Int) - (a : Int) < (cellSize (cellHow st c) n : Int) then ([], 0, 2)
  else if (cellText (cellHow st c) ((b.drop a).take (cellSize (cellHow st c) n)) (n : Int)).2 ≠ 0 then ([], 0, (cellText (cellHow st c) ((b.drop a).take (cellSize (cellHow st c) n)) (n : Int)).2)
  else if specV no c fo mi ma (cellText (cellHow st c) ((b.drop a).take (cellSize (cellHow st c) n)) (n : Int)).1 ≠ 0 then ([], 0, specV no c fo mi ma (cellText (cellHow st c) ((b.drop a).take (cellSize (cellHow st c) n)) (n : Int)).1)
  else ((cellText (cellHow st c) ((b.drop a).take (cellSize (cellHow st c) n)) (n : Int)).1, ((a + cellSize (cellHow st c) n : Nat) : Int), 0)
noncomputable def cellGet (st no c fo mi ma : Int) (b : List UInt8) (at_ : Int) : List UInt8 × Int × Int :=
  if ¬ ((st = 1 ∨ st = 2) ∧ specE no c fo mi ma = 0 ∧ 0 ≤ at_ ∧ at_ ≤ (b.length : Int)) then ([], 0, 1)
  else if fo = 1 then cellTake st no c fo mi ma b at_.toNat mi.toNat
  else if (preGet st fo b at_).2.2 ≠ 0 then ([], 0, (preGet st fo b at_).2.2)
  else if (preGet st fo b at_).1 < mi ∨ ma < (preGet st fo b at_).1 then ([], 0, 5)
  else cellTake st no c fo mi ma b (preGet st fo b at_).2.1.toNat (preGet st fo b at_).1.toNat
theorem cell_known (st : Int) : cell_known.f st = some (decide (st = 1 ∨ st = 2)) := by
  unfold cell_known.f
  by_cases h1 : st = 1
  · simp [h1]
  · by_cases h2 : st = 2 <;> simp [h1, h2]
theorem cell_how (st c : Int) (k : Nat) (hk : 4 < k) : cell_how.f k st c = some (cellHow st c) := by
  obtain ⟨k, rfl⟩ : ∃ m, k = m + 4 := ⟨k - 4, by omega⟩
  unfold cell_how.f cellHow
  by_cases h1 : st = 2
  · subst h1
    by_cases h2 : c = 1
    · subst h2; simp [cell_how.j0]
    · simp [cell_how.j0, h2]
  · by_cases h3 : st = 1
    · subst h3
      by_cases h4 : c = 5
      · subst h4; simp [cell_how.j0]
      · by_cases h5 : c = 6
        · subst h5; simp [cell_how.j0]
        · simp [cell_how.j0, h4, h5]
    · simp [cell_how.j0, h1, h3]
theorem how_cases (st c : Int) : cellHow st c = 1 ∨ cellHow st c = 2 ∨ cellHow st c = 0 := by unfold cellHow; repeat' split
                                                                                              all_goals simp
theorem specV_zero {no c fo mi ma : Int} {l : List UInt8} (h : specV no c fo mi ma l = 0) : specE no c fo mi ma = 0 ∧ mi ≤ (l.length : Int) ∧ (l.length : Int) ≤ ma ∧ l.all (inC c) = true := by
  unfold specV at h
  by_cases h1 : specE no c fo mi ma = 0
  · rw [if_neg (not_not_intro h1)] at h
    by_cases h2 : (l.length : Int) < mi ∨ ma < (l.length : Int)
    · rw [if_pos h2] at h; cases h
    · rw [if_neg h2] at h
      cases h3 : l.all (inC c) with
      | false => rw [if_pos h3] at h; cases h
      | true => exact ⟨h1, by omega, by omega, rfl⟩
  · rw [if_pos h1] at h; cases h
theorem specV_len {no c fo mi ma : Int} {l : List UInt8} (h : specV no c fo mi ma l = 0) : l.length ≤ 999 := by
  have h1 := specV_zero h
  have h2 := specE_zero h1.1
  omega
theorem cell_Put_j0 (st no c fo mi ma : Int) (l hd : List UInt8) (hl : l.length ≤ 999) (hh : hd.length ≤ 1000) (hb : (cellBody (cellHow st c) l).length ≤ 2000) (k : Nat) (hk : 1100 < k) : cell_Put.j0 k st (sb l) (sb hd) no c fo mi ma = some (sb (hd ++ cellBody (cellHow st c) l), 0) := by
  obtain ⟨k, rfl⟩ : ∃ m, k = m + 1 := ⟨k - 1, by omega⟩
  have b1 : hd.length + (cellBody (cellHow st c) l).length ≤ 9223372036854775807 := by omega
  simp only [cell_Put.j0]
  rw [cell_how _ _ _ (by omega), Option.bind_some]
  unfold cellBody at b1 ⊢
  by_cases h1 : cellHow st c = 1
  · rw [if_pos h1] at b1
    rw [if_pos h1, if_pos h1, bcd_Put l (by omega) _ (by omega), Option.bind_some, size_sb, size_sb, if_pos b1, sb_append]
  · rw [if_neg h1] at b1
    rw [if_neg h1, if_neg h1]
    by_cases h2 : cellHow st c = 2
    · rw [if_pos h2] at b1
      rw [if_pos h2, if_pos h2, hexa_Put l (by omega) _ (by omega), Option.bind_some, size_sb, size_sb, if_pos b1, sb_append]
    · rw [if_neg h2] at b1
      rw [if_neg h2, if_neg h2, size_sb, size_sb, if_pos b1, sb_append]
theorem body_length (st c : Int) (l : List UInt8) (hl : l.length ≤ 999) : (cellBody (cellHow st c) l).length ≤ 2000 := by
  unfold cellBody
  split
  · unfold bcdPut
    split
    · simp
    · rw [pack_len]; omega
  · split
    · rw [hexPut_length]; omega
    · omega
theorem head_length (st fo : Int) (n : Nat) (hf : 1 ≤ fo ∧ fo ≤ 3) : (cellHead st fo n).length ≤ 1000 := by
  unfold cellHead prePut
  split
  · simp
  · split
    · split
      · rename_i h
        obtain ⟨h1, h2, h3, h4, h5⟩ := putNum_ok (n := (n : Int)) (w := fo.toNat) (by rw [show ((fo.toNat : Nat) : Int) = fo by omega]; exact h)
        rw [show ((fo.toNat : Nat) : Int) = fo by omega] at h5
        rw [h5]
        dsimp only
        split
        · unfold bcdPut
          split
          · simp
          · rw [pack_len, bl_sb, digs_length]; omega
        · rw [bl_sb, digs_length]; omega
      · simp
    · simp
theorem cell_Put (st no c fo mi ma : Int) (l : List UInt8) (k : Nat) (hk : 4000 ≤ k) : cell_Put.f k st no c fo mi ma (sb l) = some (sb (cellPut st no c fo mi ma l).1, (cellPut st no c fo mi ma l).2) := by
  unfold cell_Put.f cellPut
  rw [cell_known, Option.bind_some, spec_Value _ _ _ _ _ _ _ (by omega), Option.bind_some]
  by_cases h1 : st = 1 ∨ st = 2
  · rw [if_pos (decide_eq_true h1), if_neg (not_not_intro h1)]
    by_cases h2 : specV no c fo mi ma l = 0
    · have hl := specV_len h2
      have hz := specE_zero (specV_zero h2).1
      have hb := body_length st c l hl
      have hh := head_length st fo l.length hz.2.2.1
      rw [if_pos h2, if_neg (not_not_intro h2)]
      unfold cellHead at hh ⊢
      by_cases h3 : fo = 1
      · rw [if_pos h3] at hh
        rw [if_pos h3, if_pos h3, empty_sb, cell_Put_j0 _ _ _ _ _ _ _ _ hl hh hb _ (by omega)]
      · rw [if_neg h3] at hh
        rw [if_neg h3, if_neg h3, size_sb, prefix_Put _ _ _ (by omega) _ (by omega), Option.bind_some]
        dsimp only
        rw [cell_Put_j0 _ _ _ _ _ _ _ _ hl hh hb _ (by omega)]
    · rw [if_neg h2, if_pos h2]; rfl
  · rw [decide_eq_false h1, if_neg (by decide), if_pos h1]; rfl
theorem cell_Get_j1 (st no c fo mi ma : Int) (b : List UInt8) (hb : b.length ≤ 140737488351232) (a n : Nat) (ha : a ≤ b.length) (hn : n ≤ 999) (k : Nat) (hk : 4000 < k) : cell_Get.j1 k st (sb b) (a : Int) (n : Int) no c fo mi ma = some (sb (cellTake st no c fo mi ma b a n).1, (cellTake st no c fo mi ma b a n).2.1, (cellTake st no c fo mi ma b a n).2.2) := by
  obtain ⟨k, rfl⟩ : ∃ m, k = m + 2 := ⟨k - 2, by omega⟩
  have b1 : 2 * n ≤ 9223372036854775807 := by omega
  have hw : wrap64 (2 * (n : Int)) = ((2 * n : Nat) : Int) := by rw [show 2 * (n : Int) = ((2 * n : Nat) : Int) by omega]; exact wrap64_nat b1
  have hs : cell_Get.j1 (k + 2) st (sb b) (a : Int) (n : Int) no c fo mi ma = cell_Get.j2 (k + 1) st (sb b) (a : Int) (n : Int) (cellSize (cellHow st c) n : Int) no c fo mi ma := by
    simp only [cell_Get.j1]
    rw [cell_how _ _ _ (by omega), Option.bind_some, hw]
    unfold cellSize
    by_cases h1 : cellHow st c = 1
    · rw [if_pos h1, if_pos h1, bcd_Size n (by omega), Option.bind_some]
    · rw [if_neg h1, if_neg h1]
      by_cases h2 : cellHow st c = 2
      · rw [if_pos h2, if_pos h2]
      · rw [if_neg h2, if_neg h2]
  rw [hs]
  clear hs hw
  have hsz : cellSize (cellHow st c) n ≤ 2000 := by unfold cellSize; repeat' split
                                                    all_goals omega
  unfold cellTake
  generalize hz : cellSize (cellHow st c) n = sz at hsz ⊢
  simp only [cell_Get.j2]
  have e1 : (b.length : Int) - (a : Int) = ((b.length - a : Nat) : Int) := by omega
  have n1 : b.length - a ≤ 9223372036854775807 := by omega
  have e2 : (a : Int) + (sz : Int) = ((a + sz : Nat) : Int) := by omega
  have n2 : a + sz ≤ 9223372036854775807 := by omega
  have q1 : 0 ≤ (a : Int) := by omega
  have q2 : (a : Int) ≤ ((a + sz : Nat) : Int) := by omega
  rw [size_sb, e1, e2, wrap64_nat n1, wrap64_nat n2]
  by_cases h0 : ((b.length - a : Nat) : Int) < (sz : Int)
  · rw [if_pos h0, if_pos h0]; rfl
  · have q3 : ((a + sz : Nat) : Int) ≤ (b.length : Int) := by omega
    have hraw : ((b.drop a).take sz).length = sz := by rw [List.length_take, List.length_drop]; omega
    rw [if_neg h0, if_neg h0, if_pos q1, if_pos q2, if_pos q3, cell_how _ _ _ (by omega), Option.bind_some, Int.toNat_natCast, Int.toNat_natCast, cut_sb]
    generalize hr : (b.drop a).take sz = raw at hraw ⊢
    unfold cellText
    by_cases h1 : cellHow st c = 1
    · simp only [h1, if_true]
      rw [bcd_Get raw n (by omega) _ (by omega), Option.bind_some]
      dsimp only
      by_cases h2 : (bcdGet raw (n : Int)).2.1 = 0
      · rw [if_pos h2, if_neg (not_not_intro h2), spec_Value _ _ _ _ _ _ _ (by omega), Option.bind_some]
        by_cases h3 : specV no c fo mi ma (bcdGet raw (n : Int)).1 = 0
        · rw [if_pos h3, if_neg (not_not_intro h3)]
        · rw [if_neg h3, if_pos h3]; rfl
      · rw [if_neg h2, if_pos h2]; rfl
    · rw [if_neg h1]
      simp only [h1, if_false]
      by_cases h2 : cellHow st c = 2
      · simp only [h2, if_true]
        rw [hexa_Get raw (by omega) _ (by omega), Option.bind_some]
        dsimp only
        by_cases h4 : (hexGet raw).2.2 = true
        · simp only [h4, if_true]
          rw [spec_Value _ _ _ _ _ _ _ (by omega), Option.bind_some, if_neg (show ¬ ((0 : Int) ≠ 0) by decide)]
          by_cases h3 : specV no c fo mi ma (hexGet raw).1 = 0
          · rw [if_pos h3, if_neg (not_not_intro h3)]
          · rw [if_neg h3, if_pos h3]; rfl
        · simp only [h4, if_false]
          rfl
      · simp only [h2, if_false]
        rw [spec_Value _ _ _ _ _ _ _ (by omega), Option.bind_some, if_neg (show ¬ ((0 : Int) ≠ 0) by decide)]
        by_cases h3 : specV no c fo mi ma raw = 0
        · rw [if_pos h3, if_neg (not_not_intro h3)]
        · rw [if_neg h3, if_pos h3]; rfl
theorem cell_Get (st no c fo mi ma : Int) (b : List UInt8) (hb : b.length ≤ 140737488351232) (at_ : Int) (k : Nat) (hk : 4010 < k) : cell_Get.f k st no c fo mi ma (sb b) at_ = some (sb (cellGet st no c fo mi ma b at_).1, (cellGet st no c fo mi ma b at_).2.1, (cellGet st no c fo mi ma b at_).2.2) := by
  obtain ⟨k, rfl⟩ : ∃ m, k = m + 1 := ⟨k - 1, by omega⟩
  have hbad : cell_Get.j0 (k + 1) st (sb b) at_ true no c fo mi ma = some (sb [], 0, 1) := by simp only [cell_Get.j0, if_true]; rfl
  unfold cell_Get.f cellGet
  rw [cell_known, Option.bind_some]
  by_cases h1 : st = 1 ∨ st = 2
  · rw [if_pos (decide_eq_true h1), spec_Check _ _ _ _ _ _ (by omega), Option.bind_some]
    by_cases h2 : specE no c fo mi ma = 0
    · rw [if_pos h2]
      by_cases h3 : at_ < 0
      · rw [if_pos h3, if_pos (by intro h; omega), hbad]
      · rw [if_neg h3, size_sb]
        by_cases h4 : at_ > (b.length : Int)
        · rw [decide_eq_true h4, if_pos (by intro h; omega), hbad]
        · have hz := specE_zero h2
          rw [decide_eq_false h4, if_neg (not_not_intro ⟨h1, h2, by omega, by omega⟩)]
          obtain ⟨a, rfl⟩ : ∃ m : Nat, at_ = (m : Int) := ⟨at_.toNat, by omega⟩
          simp only [cell_Get.j0]
          rw [if_neg (by decide)]
          by_cases h5 : fo = 1
          · obtain ⟨n, hn⟩ : ∃ m : Nat, mi = (m : Int) := ⟨mi.toNat, by omega⟩
            rw [if_pos h5, if_pos h5]
            subst hn
            rw [cell_Get_j1 _ _ _ _ _ _ _ hb _ _ (by omega) (by omega) _ (by omega), Int.toNat_natCast, Int.toNat_natCast]
          · rw [if_neg h5, if_neg h5, prefix_Get _ _ _ hb _ _ (by omega), Option.bind_some]
            by_cases h6 : (preGet st fo b (a : Int)).2.2 = 0
            · rw [if_pos h6, if_neg (not_not_intro h6)]
              obtain ⟨⟨n, nx, e⟩, hp⟩ : ∃ r, preGet st fo b (a : Int) = r := ⟨_, rfl⟩
              rw [hp] at h6 ⊢
              dsimp only at h6 ⊢
              subst h6
              obtain ⟨-, p1, p2, p3, p4, p5, p6⟩ := prePut_get hp
              by_cases h7 : n < mi
              · rw [if_pos h7, if_pos (Or.inl h7)]; rfl
              · rw [if_neg h7]
                by_cases h8 : n > ma
                · rw [if_pos h8, if_pos (Or.inr h8)]; rfl
                · rw [if_neg h8, if_neg (by omega)]
                  obtain ⟨n', rfl⟩ : ∃ m : Nat, n = (m : Int) := ⟨n.toNat, by omega⟩
                  obtain ⟨x, rfl⟩ : ∃ m : Nat, nx = (m : Int) := ⟨nx.toNat, by omega⟩
                  rw [cell_Get_j1 _ _ _ _ _ _ _ hb _ _ (by omega) (by omega) _ (by omega), Int.toNat_natCast, Int.toNat_natCast]
            · rw [if_neg h6, if_pos h6]; rfl
    · rw [if_neg h2, if_pos (by intro h; exact h2 h.2.1), hbad]
  · rw [decide_eq_false h1, if_neg (by decide), if_pos (by intro h; exact h1 h.1), hbad]
end Go.Proofs.Ytfaeodcapagjbaa.Sp
