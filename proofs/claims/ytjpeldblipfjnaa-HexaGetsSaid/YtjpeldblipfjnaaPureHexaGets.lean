/- HexaGets: any text is the bytes that the document says, or it is told which of its bytes is wrong. No conditions beyond the statement's own. -/
import Derived.Test.YtjpeldblipfjnaaHexa
import Derived.Test.YtjpeldblipfjnaaR02g
import Derived.Test.YtjpeldblipfjnaaPx2
namespace Go.Proofs.Ytjpeldblipfjnaa.Pure
open Go.RowKit Go.Proofs.Ytjpeldblipfjnaa.P Go.Proofs.YtjpeldblipfjnaaW.PrintWords Go.Proofs.YtjpeldblipfjnaaW.PrintLast Go.Proofs.Ytjpeldblipfjnaa.Sp
theorem awake02 : groatlaw02_awake.f 30 = some true := by decide +kernel
theorem HexaGets : groatlaw02_HexaGets.Pure := by
  intro s hs
  obtain ⟨l, rfl⟩ := ex_sb s
  rw [size_sb] at hs
  have aw : ∀ k, 30 ≤ k → groatlaw02_awake.f k = some true := fun k hk => at_rounds groatlaw02_awake.mono hk awake02
  refine ⟨2 * l.length + 60, ?_⟩
  unfold groatlaw02_HexaGets.f
  rw [aw _ (by omega), Option.bind_some, if_pos rfl]
  simp only [groatlaw02_HexaGets.j0]
  by_cases h1 : decide (((sb l).size : Int) > 2000) = true
  · rw [if_pos h1, aw _ (by omega)]; rfl
  · rw [if_neg h1, hexa_Get l hs _ (by omega), Option.bind_some, ref02_Get l hs _ (by omega), Option.bind_some]; simp
end Go.Proofs.Ytjpeldblipfjnaa.Pure
