/- CellOne: bytes that are got are put as they were. -/
import Derived.Test.YtfaeodcapagjbaaCellS
import Derived.Test.YtfaeodcapagjbaaCellA
import Derived.Test.YtfaeodcapagjbaaPx23
namespace Go.Proofs.Ytfaeodcapagjbaa.Pure
open Go.RowKit Go.Proofs.Ytfaeodcapagjbaa.P Go.Proofs.YtfaeodcapagjbaaW.PrintWords Go.Proofs.YtfaeodcapagjbaaW.PrintLast Go.Proofs.Ytfaeodcapagjbaa.Sp
set_option linter.unusedVariables false
set_option linter.unusedSimpArgs false
theorem CellOne : groatlaw12_CellOne.Pure := by
  intro st s text hst hs ht
  obtain ⟨b, rfl⟩ := ex_sb text
  rw [size_sb] at ht
  refine ⟨6001, ?_⟩
  have e1 : groatlaw12_awake.f 6001 = some true := at_rounds groatlaw12_awake.mono (by decide) awake12
  have e2 : groatlaw12_awake.f 6000 = some true := at_rounds groatlaw12_awake.mono (by decide) awake12
  unfold groatlaw12_CellOne.f
  rw [e1, Option.bind_some, if_pos rfl, size_sb]
  simp only [groatlaw12_CellOne.j0]
  rw [e2]
  by_cases h : (b.length : Int) > 2500
  · rw [decide_eq_true h, if_pos rfl]; rfl
  · rw [decide_eq_false h, if_neg (by decide), cell_Get _ _ _ _ _ _ _ ht _ _ (by decide), Option.bind_some]
    obtain ⟨⟨t, nx, e⟩, hg⟩ : ∃ r, cellGet st s.f0 s.f1 s.f2 s.f3 s.f4 b 0 = r := ⟨_, rfl⟩
    rw [hg]
    dsimp only
    by_cases he : e = 0
    · subst he
      obtain ⟨h0, hv, -, x, rfl, -, hx, hp⟩ := put_get (a := 0) hg
      rw [List.drop_zero, Nat.sub_zero] at hp
      rw [if_pos rfl, cell_Put _ _ _ _ _ _ _ _ (by decide), Option.bind_some, hp]
      dsimp only
      rw [if_pos rfl, if_pos (show (x : Int) ≥ 0 by omega), size_sb, if_pos (show (x : Int) ≤ (b.length : Int) by omega), if_pos (show 0 ≤ (x : Int) by omega), Int.toNat_natCast, sb_extract, List.drop_zero]
      simp
    · have hn := get_no (st := st) (no := s.f0) (c := s.f1) (fo := s.f2) (mi := s.f3) (ma := s.f4) (b := b) (at_ := 0) (by rw [hg]; exact he)
      rw [hg] at hn
      dsimp only at hn
      rw [if_neg he, toList_sb, hn.1, if_pos rfl, hn.2]; rfl
end Go.Proofs.Ytfaeodcapagjbaa.Pure
