-- written for this claim by wip/pp.py
import Derived.Test.YtncchgjoikeenaaProg
import Derived.Below
import Derived.Deep.Draws
import Derived.Deep.AppendLies
import Derived.Maps.AppendAt
import Derived.OwnWalk
import Derived.Laws.BytesArg
import Derived.Laws.MakeOwn
import Derived.Laws.OwnMore
import Derived.Deep.OwnRows
import Derived.Tactics
import Derived.Lib.ConvBytes
import Derived.Laws.Slices
import Derived.WalkKit
import Derived.KernelRfl
import Derived.RowKit3
import Derived.Deep.LoopGhost
import Derived.Deep.QuietTactic
import Derived.BigQuiet
import Derived.WideLaws
import Derived.Deep.DeepCutAuto
import Derived.Deep.CutBlock
import Derived.Deep.RegionHeld3
import Derived.Laws.Rows
import Derived.Lib.AppendStr
import Derived.ArgAppend
import Derived.Laws.IdiomCopy
import Derived.OrdersHeld
import Derived.Laws.BitsLemmas
import Derived.RowKit
import Derived.Test.YtncchgjoikeenaaBa
import Derived.Laws.RangeString
import Derived.Laws.RangeAny
import Derived.Lib.OthersKept
import Derived.Test.YtncchgjoikeenaaWWords
import Derived.Test.YtncchgjoikeenaaWLast
import Derived.Test.YtncchgjoikeenaaWTab
import Derived.Test.YtncchgjoikeenaaWFour
import Derived.Test.YtncchgjoikeenaaWQPut
import Derived.Test.YtncchgjoikeenaaWApart
import Derived.Test.YtncchgjoikeenaaWArr
import Derived.Test.YtncchgjoikeenaaWZeros
import Derived.Test.YtncchgjoikeenaaWFoot
import Derived.Test.YtncchgjoikeenaaWKept
import Derived.Test.YtncchgjoikeenaaWShare
import Derived.Test.YtncchgjoikeenaaWN
import Derived.Test.YtncchgjoikeenaaWFootNe
import Derived.Test.YtncchgjoikeenaaWAt
import Derived.Test.YtncchgjoikeenaaWEqStruct
import Derived.Test.YtncchgjoikeenaaWRepsOne
import Derived.Test.YtncchgjoikeenaaWInv
import Derived.Test.YtncchgjoikeenaaWInvWords
import Derived.Test.YtncchgjoikeenaaWGuard
import Derived.Test.YtncchgjoikeenaaWNEv
import Derived.Test.YtncchgjoikeenaaWMore
namespace Go.Proofs.Ytncchgjoikeenaa.P
open Go.RowKit Go.Proofs.YtncchgjoikeenaaW.PrintWords Go.Proofs.YtncchgjoikeenaaW.PrintLast Go.Proofs.YtncchgjoikeenaaW.PrintMore
attribute [local go_sem] max2_int min2_int max_two min_two max_three min_three max_four min_four   -- for this text's walks alone
set_option linter.unusedVariables false
set_option linter.unusedSimpArgs false



def errW : Option Int → Value
  | none => .nilIface
  | some c => .iface 0 (.int .i64 c)
theorem errW_none : errW none = .nilIface := rfl
theorem errW_some (c : Int) : errW (some c) = .iface 0 (.int .i64 c) := rfl

theorem info5 : (Try.prog.info? 5).map (fun i => (i.zero, i.size, i.bytes)) = some (some (.int .u8 0), 1, 1) := by kernel_rfl
-- the values' own types

end Go.Proofs.Ytncchgjoikeenaa.P
