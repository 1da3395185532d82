/- What a valid message's bytes are, once more. -/
import Derived.Test.YtkaihbkfobiejaaGreatDoorNgf
namespace Go.Proofs.YtkaihbkfobiejaaGreatDoor.Sp
open Go Go.RowKit
set_option linter.unusedVariables false
set_option linter.unusedSimpArgs false
theorem wireB_ne {x : Int × Int × List S5} {t : List UInt8} {l : List V} (h : msgE x t l = (0, 0)) : wireB x.1 x.2.2 t l ≠ [] := by
  obtain ⟨⟨h1, h2, h3⟩, h4⟩ := (msgE_zero _ _ _).1.1 h
  have hl := typeB_length' (schema_style h1) h2
  intro e
  have e2 := congrArg List.length e
  unfold wireB at e2
  rw [List.length_append, List.length_append, hl] at e2
  unfold typeN at e2
  split at e2 <;> simp at e2
end Go.Proofs.YtkaihbkfobiejaaGreatDoor.Sp
