/- HexaOne: digits that are got are put as they were. No conditions beyond the statement's own. -/
import Derived.Test.YtjpeldblipfjnaaHexa
import Derived.Test.YtjpeldblipfjnaaPx3
namespace Go.Proofs.Ytjpeldblipfjnaa.Pure
open Go.RowKit Go.Proofs.Ytjpeldblipfjnaa.P Go.Proofs.YtjpeldblipfjnaaW.PrintWords Go.Proofs.YtjpeldblipfjnaaW.PrintLast Go.Proofs.Ytjpeldblipfjnaa.Sp
theorem awake02 : groatlaw02_awake.f 30 = some true := by decide +kernel
theorem HexaOne : groatlaw02_HexaOne.Pure := by
  intro s hs
  obtain ⟨l, rfl⟩ := ex_sb s
  rw [size_sb] at hs
  have aw : ∀ k, 30 ≤ k → groatlaw02_awake.f k = some true := fun k hk => at_rounds groatlaw02_awake.mono hk awake02
  refine ⟨2 * l.length + 60, ?_⟩
  unfold groatlaw02_HexaOne.f
  rw [aw _ (by omega), Option.bind_some, if_pos rfl]
  simp only [groatlaw02_HexaOne.j0]
  by_cases h1 : decide (((sb l).size : Int) > 1000) = true
  · rw [if_pos h1, aw _ (by omega)]; rfl
  · have h2 : l.length ≤ 1000 := by simp [size_sb] at h1; omega
    rw [if_neg h1, hexa_Get l hs _ (by omega), Option.bind_some]
    cases h : (hexGet l).2.2 with
    | false =>
      obtain ⟨g1, g2, g3⟩ := hexGet_no h
      simp only [Bool.false_eq_true, if_false]
      rw [g1, toList_sb, if_pos rfl, if_pos g2, size_sb, decide_eq_true g3]
    | true =>
      have h' : hexGet l = ((hexGet l).1, (hexGet l).2.1, true) := by rw [← h]
      obtain ⟨g1, g2⟩ := hexGet_ok h'
      have g3 : 2 * (hexGet l).1.length = l.length := by rw [← hexPut_length, g2]
      have g4 : (hexGet l).1.length < 2 * l.length + 59 := by omega
      have g5 : (hexGet l).1.length ≤ 35184372088832 := by omega
      simp only [if_true]
      rw [hexa_Put _ g5 _ g4, Option.bind_some, g2]; simp
end Go.Proofs.Ytjpeldblipfjnaa.Pure
