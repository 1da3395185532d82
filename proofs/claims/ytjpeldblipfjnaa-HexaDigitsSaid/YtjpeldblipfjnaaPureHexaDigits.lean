/- HexaDigits: any byte is the digit that the document says, or none. No conditions beyond the statement's own. -/
import Derived.Test.YtjpeldblipfjnaaHexa
import Derived.Test.YtjpeldblipfjnaaR02g
import Derived.Test.YtjpeldblipfjnaaWf
import Derived.Test.YtjpeldblipfjnaaPx2
namespace Go.Proofs.Ytjpeldblipfjnaa.Pure
open Go.RowKit Go.Proofs.Ytjpeldblipfjnaa.P Go.Proofs.YtjpeldblipfjnaaW.PrintWords Go.Proofs.YtjpeldblipfjnaaW.PrintLast Go.Proofs.YtjpeldblipfjnaaW.PrintMore Go.Proofs.Ytjpeldblipfjnaa.Sp
theorem awake02 : groatlaw02_awake.f 30 = some true := by decide +kernel
theorem HexaDigits : groatlaw02_HexaDigits.Pure := by
  intro b hb
  obtain ⟨x, rfl⟩ := ex_u8 hb
  refine ⟨30, ?_⟩
  unfold groatlaw02_HexaDigits.f
  rw [hexa_Digit x _ (by decide), Option.bind_some, ref02_Worth x _ (by decide), Option.bind_some, awake02, Option.bind_some, if_pos rfl]
  by_cases h : hexOk x = true
  · rw [hexP_pos h, show worth x = ((hexV x : Nat) : Int) from if_pos h]
    have e : mx ((hexV x : Nat) : Int) 0 = ((hexV x : Nat) : Int) := by unfold mx; rw [if_neg (by omega)]
    rw [e, decide_eq_true (show ((hexV x : Nat) : Int) ≥ 0 by omega)]; simp
  · rw [hexP_neg h, show worth x = -1 from if_neg h]; rfl
end Go.Proofs.Ytjpeldblipfjnaa.Pure
