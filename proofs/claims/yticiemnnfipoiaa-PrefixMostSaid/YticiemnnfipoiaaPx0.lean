-- written for this claim by wip/pp.py
import Derived.Test.YticiemnnfipoiaaProg
import Derived.Below
import Derived.Deep.Draws
import Derived.Deep.AppendLies
import Derived.Maps.AppendAt
import Derived.OwnWalk
import Derived.Laws.BytesArg
import Derived.Laws.MakeOwn
import Derived.Laws.OwnMore
import Derived.Deep.OwnRows
import Derived.Tactics
import Derived.Lib.ConvBytes
import Derived.Laws.Slices
import Derived.WalkKit
import Derived.KernelRfl
import Derived.RowKit3
import Derived.Deep.LoopGhost
import Derived.Deep.QuietTactic
import Derived.BigQuiet
import Derived.WideLaws
import Derived.Deep.DeepCutAuto
import Derived.Deep.CutBlock
import Derived.Deep.RegionHeld3
import Derived.Laws.Rows
import Derived.Lib.AppendStr
import Derived.ArgAppend
import Derived.Laws.IdiomCopy
import Derived.OrdersHeld
import Derived.Laws.BitsLemmas
import Derived.RowKit
import Derived.Test.YticiemnnfipoiaaBa
import Derived.Test.YticiemnnfipoiaaMk
import Derived.Laws.RangeString
import Derived.Laws.RangeAny
import Derived.Lib.OthersKept
import Derived.Test.YticiemnnfipoiaaWWords
import Derived.Test.YticiemnnfipoiaaWLast
import Derived.Test.YticiemnnfipoiaaWTab
import Derived.Test.YticiemnnfipoiaaWFour
import Derived.Test.YticiemnnfipoiaaWQPut
import Derived.Test.YticiemnnfipoiaaWApart
import Derived.Test.YticiemnnfipoiaaWArr
import Derived.Test.YticiemnnfipoiaaWZeros
import Derived.Test.YticiemnnfipoiaaWFoot
import Derived.Test.YticiemnnfipoiaaWKept
import Derived.Test.YticiemnnfipoiaaWShare
import Derived.Test.YticiemnnfipoiaaWN
import Derived.Test.YticiemnnfipoiaaWFootNe
import Derived.Test.YticiemnnfipoiaaWAt
import Derived.Test.YticiemnnfipoiaaWEqStruct
import Derived.Test.YticiemnnfipoiaaWRepsOne
import Derived.Test.YticiemnnfipoiaaWInv
import Derived.Test.YticiemnnfipoiaaWInvWords
import Derived.Test.YticiemnnfipoiaaWGuard
import Derived.Test.YticiemnnfipoiaaWNEv
import Derived.Test.YticiemnnfipoiaaWMore
namespace Go.Proofs.Yticiemnnfipoiaa.P
open Go.RowKit Go.Proofs.YticiemnnfipoiaaW.PrintWords Go.Proofs.YticiemnnfipoiaaW.PrintLast Go.Proofs.YticiemnnfipoiaaW.PrintMore
attribute [local go_sem] max2_int min2_int max_two min_two max_three min_three max_four min_four   -- for this text's walks alone
set_option linter.unusedVariables false
set_option linter.unusedSimpArgs false



def errW : Option Int → Value
  | none => .nilIface
  | some c => .iface 0 (.int .i64 c)
theorem errW_none : errW none = .nilIface := rfl
theorem errW_some (c : Int) : errW (some c) = .iface 0 (.int .i64 c) := rfl

theorem info5 : (Try.prog.info? 5).map (fun i => (i.zero, i.size, i.bytes)) = some (some (.int .u8 0), 1, 1) := by kernel_rfl
-- the values' own types

end Go.Proofs.Yticiemnnfipoiaa.P
