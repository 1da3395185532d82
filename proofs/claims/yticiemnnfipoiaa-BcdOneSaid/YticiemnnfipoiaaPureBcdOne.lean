/- BcdOne: digits that are got are packed as they were. No conditions beyond the statement's own. -/
import Derived.Test.YticiemnnfipoiaaBcd
import Derived.Test.YticiemnnfipoiaaWf
import Derived.Test.YticiemnnfipoiaaPx5
namespace Go.Proofs.Yticiemnnfipoiaa.Pure
open Go.RowKit Go.Proofs.Yticiemnnfipoiaa.P Go.Proofs.YticiemnnfipoiaaW.PrintWords Go.Proofs.YticiemnnfipoiaaW.PrintLast Go.Proofs.Yticiemnnfipoiaa.Sp
theorem awake03 : groatlaw03_awake.f 30 = some true := by decide +kernel
theorem BcdOne : groatlaw03_BcdOne.Pure := by
  intro s n hs hn
  obtain ⟨l, rfl⟩ := ex_sb s
  rw [size_sb] at hs
  have hn := (wf_i64 hn).2
  have aw : ∀ k, 30 ≤ k → groatlaw03_awake.f k = some true := fun k hk => at_rounds groatlaw03_awake.mono hk awake03
  refine ⟨1300, ?_⟩
  unfold groatlaw03_BcdOne.f
  rw [aw _ (by omega), Option.bind_some, if_pos rfl]
  simp only [groatlaw03_BcdOne.j0]
  by_cases h1 : decide (((sb l).size : Int) > 600) = true
  · rw [if_pos h1, aw _ (by omega)]; rfl
  · rw [if_neg h1, bcd_Get l n hn _ (by omega), Option.bind_some]
    simp only
    by_cases h2 : (bcdGet l n).2.1 = 0
    · rw [if_pos h2]
      have h' : bcdGet l n = ((bcdGet l n).1, 0, (bcdGet l n).2.2) := by rw [← h2]
      obtain ⟨-, g0, g9, gl, glen, gd, gp⟩ := bcdGet_ok h'
      obtain ⟨v, rfl⟩ := Int.eq_ofNat_of_zero_le g0
      rw [Int.toNat_natCast] at gl glen gp
      have b1 : (bcdGet l (v : Int)).1.length ≤ 140737488351232 := by omega
      have b2 : ¬ (999 < (bcdGet l (v : Int)).1.length ∨ (bcdGet l (v : Int)).1.all dig = false) := by rw [gd]; simp; omega
      have b3 : (((v + 1) / 2 : Nat) : Int) ≤ (l.length : Int) := by omega
      have b4 : 0 ≤ (((v + 1) / 2 : Nat) : Int) := by omega
      have e : bcdPut (bcdGet l (v : Int)).1 = (pack (even0 (bcdGet l (v : Int)).1), true) := if_neg b2
      rw [bcd_Put _ b1 _ (by omega), Option.bind_some, e, size_sb, glen, if_pos rfl, if_pos rfl, bcd_Size v (by omega), Option.bind_some, size_sb, if_pos b3, if_pos b4, Int.toNat_natCast, sb_extract, List.drop_zero, gp]
      simp
    · rw [if_neg h2, bcdGet_no h2]; simp [toList_sb]
end Go.Proofs.Yticiemnnfipoiaa.Pure
