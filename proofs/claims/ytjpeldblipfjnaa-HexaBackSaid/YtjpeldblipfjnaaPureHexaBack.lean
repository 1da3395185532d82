/- HexaBack: any bytes have the digits that the document says, and are got from them as they were. No conditions beyond the statement's own. -/
import Derived.Test.YtjpeldblipfjnaaHexa
import Derived.Test.YtjpeldblipfjnaaR02p
import Derived.Test.YtjpeldblipfjnaaPx3
namespace Go.Proofs.Ytjpeldblipfjnaa.Pure
open Go.RowKit Go.Proofs.Ytjpeldblipfjnaa.P Go.Proofs.YtjpeldblipfjnaaW.PrintWords Go.Proofs.YtjpeldblipfjnaaW.PrintLast Go.Proofs.Ytjpeldblipfjnaa.Sp
theorem awake02 : groatlaw02_awake.f 30 = some true := by decide +kernel
theorem HexaBack : groatlaw02_HexaBack.Pure := by
  intro s hs
  obtain ⟨l, rfl⟩ := ex_sb s
  rw [size_sb] at hs
  have aw : ∀ k, 30 ≤ k → groatlaw02_awake.f k = some true := fun k hk => at_rounds groatlaw02_awake.mono hk awake02
  refine ⟨2 * l.length + 60, ?_⟩
  unfold groatlaw02_HexaBack.f
  rw [aw _ (by omega), Option.bind_some, if_pos rfl]
  simp only [groatlaw02_HexaBack.j0]
  by_cases h1 : decide (((sb l).size : Int) > 1000) = true
  · rw [if_pos h1, aw _ (by omega)]; rfl
  · have h2 : l.length ≤ 1000 := by simp [size_sb] at h1; omega
    have h3 : (hexPut l).length ≤ 140737488351232 := by rw [hexPut_length]; omega
    have h4 : (hexPut l).length + 2 < 2 * l.length + 59 := by rw [hexPut_length]; omega
    rw [if_neg h1, hexa_Put l (by omega) _ (by omega), Option.bind_some, hexa_Get _ h3 _ h4, Option.bind_some, ref02_Put l (by omega) _ (by omega), hexGet_put]; simp
end Go.Proofs.Ytjpeldblipfjnaa.Pure
