/- What stands ahead of a field, and behind it, plays no part. -/
import Derived.Test.YtfaeodcapagjbaaCellS
namespace Go.Proofs.Ytfaeodcapagjbaa.Sp
open Go.RowKit Go.Proofs.YtfaeodcapagjbaaW.PrintWords Go.Proofs.YtfaeodcapagjbaaW.PrintLast Go.Proofs.YtfaeodcapagjbaaW.PrintMore Go.Proofs.Ytfaeodcapagjbaa.P
set_option linter.unusedVariables false
set_option linter.unusedSimpArgs false
theorem preGet_ahead (st fo : Int) (a b : List UInt8) : preGet st fo (a ++ b) (a.length : Int) = ((preGet st fo b 0).1, (if (preGet st fo b 0).2.2 = 0 then (preGet st fo b 0).2.1 + (a.length : Int) else 0), (preGet st fo b 0).2.2) := by
  unfold preGet
  rw [Int.toNat_natCast, List.drop_left, List.length_append, show (0 : Int).toNat = 0 from rfl, List.drop_zero, show ((a.length + b.length : Nat) : Int) - (a.length : Int) = (b.length : Int) - 0 by omega]
  by_cases h1 : preOk st fo = true
  · have g1 : preOk st fo = true ∧ 0 ≤ (a.length : Int) ∧ (a.length : Int) ≤ ((a.length + b.length : Nat) : Int) := ⟨h1, by omega, by omega⟩
    have g2 : preOk st fo = true ∧ 0 ≤ (0 : Int) ∧ (0 : Int) ≤ (b.length : Int) := ⟨h1, by omega, by omega⟩
    rw [if_pos g1, if_pos g2]
    by_cases h2 : (b.length : Int) - 0 < (preSize st fo : Int)
    · rw [if_pos h2, if_pos h2]; rfl
    · rw [if_neg h2, if_neg h2]
      by_cases h3 : (preDigits st fo (b.take (preSize st fo))).2 = 0
      · rw [if_pos h3, if_pos h3]
        by_cases h4 : (getNum (preDigits st fo (b.take (preSize st fo))).1).2 = true
        · rw [if_pos h4, if_pos h4]
          dsimp only
          rw [if_pos rfl, Int.add_comm (a.length : Int), Int.zero_add]
        · rw [if_neg h4, if_neg h4]; rfl
      · rw [if_neg h3, if_neg h3]; rfl
  · rw [if_neg (by intro h; exact h1 h.1), if_neg (by intro h; exact h1 h.1)]; rfl
theorem take_ahead (st no c fo mi ma : Int) (a b : List UInt8) (i n : Nat) : cellTake st no c fo mi ma (a ++ b) (a.length + i) n = ((cellTake st no c fo mi ma b i n).1, (if (cellTake st no c fo mi ma b i n).2.2 = 0 then (cellTake st no c fo mi ma b i n).2.1 + (a.length : Int) else 0), (cellTake st no c fo mi ma b i n).2.2) := by
  unfold cellTake
  have e1 : (((a ++ b).length : Nat) : Int) - ((a.length + i : Nat) : Int) = (b.length : Int) - (i : Int) := by rw [List.length_append]; omega
  have e2 : (a ++ b).drop (a.length + i) = b.drop i := by rw [← List.drop_drop, List.drop_left]
  rw [e1, e2]
  by_cases h0 : (b.length : Int) - (i : Int) < (cellSize (cellHow st c) n : Int)
  · rw [if_pos h0, if_pos h0]; rfl
  · rw [if_neg h0, if_neg h0]
    by_cases h1 : (cellText (cellHow st c) ((b.drop i).take (cellSize (cellHow st c) n)) (n : Int)).2 ≠ 0
    · rw [if_pos h1, if_pos h1]; dsimp only; rw [if_neg h1]
    · rw [if_neg h1, if_neg h1]
      by_cases h2 : specV no c fo mi ma (cellText (cellHow st c) ((b.drop i).take (cellSize (cellHow st c) n)) (n : Int)).1 ≠ 0
      · rw [if_pos h2, if_pos h2]; dsimp only; rw [if_neg h2]
      · rw [if_neg h2, if_neg h2]; dsimp only; rw [if_pos rfl]; congr 2; omega
theorem get_ahead (st no c fo mi ma : Int) (a b : List UInt8) : cellGet st no c fo mi ma (a ++ b) (a.length : Int) = ((cellGet st no c fo mi ma b 0).1, (if (cellGet st no c fo mi ma b 0).2.2 = 0 then (cellGet st no c fo mi ma b 0).2.1 + (a.length : Int) else 0), (cellGet st no c fo mi ma b 0).2.2) := by
  unfold cellGet
  by_cases h1 : (st = 1 ∨ st = 2) ∧ specE no c fo mi ma = 0
  · have g1 : (st = 1 ∨ st = 2) ∧ specE no c fo mi ma = 0 ∧ 0 ≤ (a.length : Int) ∧ (a.length : Int) ≤ (((a ++ b).length : Nat) : Int) := ⟨h1.1, h1.2, by omega, by rw [List.length_append]; omega⟩
    have g2 : (st = 1 ∨ st = 2) ∧ specE no c fo mi ma = 0 ∧ 0 ≤ (0 : Int) ∧ (0 : Int) ≤ (b.length : Int) := ⟨h1.1, h1.2, by omega, by omega⟩
    rw [if_neg (not_not_intro g1), if_neg (not_not_intro g2)]
    by_cases h2 : fo = 1
    · rw [if_pos h2, if_pos h2, Int.toNat_natCast]
      exact take_ahead st no c fo mi ma a b 0 mi.toNat
    · rw [if_neg h2, if_neg h2, preGet_ahead]
      dsimp only
      by_cases h3 : (preGet st fo b 0).2.2 = 0
      · obtain ⟨⟨n, x, e⟩, hp⟩ : ∃ r, preGet st fo b 0 = r := ⟨_, rfl⟩
        rw [hp] at h3 ⊢
        dsimp only at h3 ⊢
        subst h3
        obtain ⟨p0, p1, p2, p3, p4, p5, p6⟩ := prePut_get hp
        rw [if_neg (show ¬ ((0 : Int) ≠ 0) by decide), if_neg (show ¬ ((0 : Int) ≠ 0) by decide), if_pos rfl]
        by_cases h4 : n < mi ∨ ma < n
        · rw [if_pos h4, if_pos h4]; rfl
        · rw [if_neg h4, if_neg h4, show (x + (a.length : Int)).toNat = a.length + x.toNat by omega]
          exact take_ahead st no c fo mi ma a b _ _
      · rw [if_pos h3, if_pos h3]; dsimp only; rw [if_neg h3]
  · rw [if_pos (by intro h; exact h1 ⟨h.1, h.2.1⟩), if_pos (by intro h; exact h1 ⟨h.1, h.2.1⟩)]; rfl
theorem get_behind {st no c fo mi ma : Int} {b t : List UInt8} {nx : Int} (r : List UInt8) (h : cellGet st no c fo mi ma b 0 = (t, nx, 0)) : cellGet st no c fo mi ma (b ++ r) 0 = (t, nx, 0) := by
  obtain ⟨hs, hv, -, e, rfl, -, he, hp⟩ := put_get (a := 0) h
  rw [List.drop_zero, Nat.sub_zero] at hp
  have hg := get_put st no c fo mi ma t [] (b.drop e ++ r) hs hv
  rw [hp] at hg
  dsimp only at hg
  rw [List.nil_append, ← List.append_assoc, List.take_append_drop] at hg
  rw [show (0 : Int) = (([] : List UInt8).length : Int) from rfl, hg, List.length_take]
  congr 2
  simp
  omega
end Go.Proofs.Ytfaeodcapagjbaa.Sp
