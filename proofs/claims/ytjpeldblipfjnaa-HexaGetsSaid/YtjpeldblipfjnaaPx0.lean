-- written for this claim by wip/pp.py
import Derived.Test.YtjpeldblipfjnaaProg
import Derived.Below
import Derived.Deep.Draws
import Derived.Deep.AppendLies
import Derived.Maps.AppendAt
import Derived.OwnWalk
import Derived.Laws.BytesArg
import Derived.Laws.MakeOwn
import Derived.Laws.OwnMore
import Derived.Deep.OwnRows
import Derived.Tactics
import Derived.Lib.ConvBytes
import Derived.Laws.Slices
import Derived.WalkKit
import Derived.KernelRfl
import Derived.RowKit3
import Derived.Deep.LoopGhost
import Derived.Deep.QuietTactic
import Derived.BigQuiet
import Derived.WideLaws
import Derived.Deep.DeepCutAuto
import Derived.Deep.CutBlock
import Derived.Deep.RegionHeld3
import Derived.Laws.Rows
import Derived.Lib.AppendStr
import Derived.ArgAppend
import Derived.Laws.IdiomCopy
import Derived.OrdersHeld
import Derived.Laws.BitsLemmas
import Derived.RowKit
import Derived.Test.YtjpeldblipfjnaaBa
import Derived.Test.YtjpeldblipfjnaaMk
import Derived.Laws.RangeString
import Derived.Laws.RangeAny
import Derived.Lib.OthersKept
import Derived.Test.YtjpeldblipfjnaaWWords
import Derived.Test.YtjpeldblipfjnaaWLast
import Derived.Test.YtjpeldblipfjnaaWTab
import Derived.Test.YtjpeldblipfjnaaWFour
import Derived.Test.YtjpeldblipfjnaaWQPut
import Derived.Test.YtjpeldblipfjnaaWApart
import Derived.Test.YtjpeldblipfjnaaWArr
import Derived.Test.YtjpeldblipfjnaaWZeros
import Derived.Test.YtjpeldblipfjnaaWFoot
import Derived.Test.YtjpeldblipfjnaaWKept
import Derived.Test.YtjpeldblipfjnaaWShare
import Derived.Test.YtjpeldblipfjnaaWN
import Derived.Test.YtjpeldblipfjnaaWFootNe
import Derived.Test.YtjpeldblipfjnaaWAt
import Derived.Test.YtjpeldblipfjnaaWEqStruct
import Derived.Test.YtjpeldblipfjnaaWRepsOne
import Derived.Test.YtjpeldblipfjnaaWInv
import Derived.Test.YtjpeldblipfjnaaWInvWords
import Derived.Test.YtjpeldblipfjnaaWGuard
import Derived.Test.YtjpeldblipfjnaaWNEv
import Derived.Test.YtjpeldblipfjnaaWMore
namespace Go.Proofs.Ytjpeldblipfjnaa.P
open Go.RowKit Go.Proofs.YtjpeldblipfjnaaW.PrintWords Go.Proofs.YtjpeldblipfjnaaW.PrintLast Go.Proofs.YtjpeldblipfjnaaW.PrintMore
attribute [local go_sem] max2_int min2_int max_two min_two max_three min_three max_four min_four   -- for this text's walks alone
set_option linter.unusedVariables false
set_option linter.unusedSimpArgs false



def errW : Option Int → Value
  | none => .nilIface
  | some c => .iface 0 (.int .i64 c)
theorem errW_none : errW none = .nilIface := rfl
theorem errW_some (c : Int) : errW (some c) = .iface 0 (.int .i64 c) := rfl

theorem info5 : (Try.prog.info? 5).map (fun i => (i.zero, i.size, i.bytes)) = some (some (.int .u8 0), 1, 1) := by kernel_rfl
-- the values' own types

end Go.Proofs.Ytjpeldblipfjnaa.P
