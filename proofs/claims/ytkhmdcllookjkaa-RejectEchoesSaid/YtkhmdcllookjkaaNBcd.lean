/- What the program's functions on packed digits answer. -/
import Derived.Test.YtkhmdcllookjkaaNBcdS
namespace Go.Proofs.Ytkhmdcllookjkaa.Sp
open Go Go.RowKit
set_option linter.unusedVariables false
set_option linter.unusedSimpArgs false
theorem or100 : ∀ a b : Fin 10, Go.bits .or .u8 ((((((48 + a.val : Nat) : Int) - 48) % 256) * 16) % 256) ((((48 + b.val : Nat) : Int) - 48) % 256) = ((16 * a.val + b.val : Nat) : Int) := by decide +kernel
theorem or_dig {a b : UInt8} (ha : dig a = true) (hb : dig b = true) : Go.bits .or .u8 (((((a.toNat : Int) - 48) % 256) * 16) % 256) (((b.toNat : Int) - 48) % 256) = ((16 * (a.toNat - 48) + (b.toNat - 48) : Nat) : Int) := by
  have ha := (dig_iff a).1 ha
  have hb := (dig_iff b).1 hb
  have := or100 ⟨a.toNat - 48, by omega⟩ ⟨b.toNat - 48, by omega⟩
  simp only at this
  rwa [show 48 + (a.toNat - 48) = a.toNat by omega, show 48 + (b.toNat - 48) = b.toNat by omega] at this
theorem get256 : ∀ n : Fin 256, ((n.val : Nat) : Int) / 16 = ((n.val / 16 : Nat) : Int) ∧ Go.bits .and .u8 ((n.val : Nat) : Int) 15 = ((n.val % 16 : Nat) : Int) ∧ (48 + ((n.val / 16 : Nat) : Int)) % 256 = ((48 + n.val / 16 : Nat) : Int) ∧ (48 + ((n.val % 16 : Nat) : Int)) % 256 = ((48 + n.val % 16 : Nat) : Int) := by decide +kernel
end Go.Proofs.Ytkhmdcllookjkaa.Sp
