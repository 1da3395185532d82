/- What the program's functions on digits of sixteen answer. -/
import Derived.Test.YtnhogpbibcgpkaaNHex
namespace Go.Proofs.Ytnhogpbibcgpkaa.Sp
open Go Go.RowKit
set_option linter.unusedVariables false
set_option linter.unusedSimpArgs false
def hexP (x : UInt8) : Int × Bool := if hexOk x = true then (((hexV x : Nat) : Int), true) else (0, false)
theorem hexP_pos {x : UInt8} (h : hexOk x = true) : hexP x = (((hexV x : Nat) : Int), true) := if_pos h
theorem hexP_neg {x : UInt8} (h : ¬ hexOk x = true) : hexP x = (0, false) := if_neg h
theorem or256 : ∀ a b : Fin 16, (Go.bits .or .i64 (wrap64 (((a.val : Nat) : Int) * 16)) ((b.val : Nat) : Int)) % 256 = ((16 * a.val + b.val : Nat) : Int) := by decide +kernel
end Go.Proofs.Ytnhogpbibcgpkaa.Sp
