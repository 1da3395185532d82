import Derived.Test.YtkaihbkfobiejaaGreatDoorZ13
import Derived.Test.YtkaihbkfobiejaaGreatDoorZ9
namespace Go.Proofs.YtkaihbkfobiejaaGreatDoor.Xe
open Go Go.RowKit Go.Proofs.YtkaihbkfobiejaaGreatDoor.Sp
set_option linter.unusedVariables false
set_option linter.unusedSimpArgs false
set_option maxRecDepth 100000
theorem decL_len (st : Int) (s : List S5) (b : List UInt8) : ∀ (L : List Int) (a : Int), (decL st s b L a).1.length ≤ L.length
 | [], a => by rw [decL]; exact Nat.le_refl _
 | n :: L, a => by
  rw [decL]
  split
  ·simp
  ·split
   ·simp
   ·have := decL_len st s b L (cellGet' st (findS n s).1 b a).2.1
    simp only [List.length_cons]; omega
theorem decM_len (x : Int × Int × List S5) (b : List UInt8) : (decM x b).1.2.length ≤ 128 := by
 rcases decM_cases x b with ⟨h1, -, -⟩ | ⟨-, -, -, -, -, h6⟩
 ·rw [h1]; simp
 ·rcases h6 with ⟨k1, -, -, -⟩ | ⟨-, k2, -⟩
  ·rw [k1]; simp
  ·rw [k2]
   exact Nat.le_trans (decL_len ..) (fromS_length _ _ _)
end Go.Proofs.YtkaihbkfobiejaaGreatDoor.Xe
