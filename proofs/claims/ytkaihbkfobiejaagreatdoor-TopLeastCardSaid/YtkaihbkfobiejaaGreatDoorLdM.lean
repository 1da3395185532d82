/- What is decoded is not too great. -/
import Derived.Test.YtkaihbkfobiejaaGreatDoorNgf
import Derived.Test.YtkaihbkfobiejaaGreatDoorEms
namespace Go.Proofs.YtkaihbkfobiejaaGreatDoor.Xe
open Go Go.RowKit Go.Proofs.YtkaihbkfobiejaaGreatDoor.Sp
set_option linter.unusedVariables false
set_option linter.unusedSimpArgs false
set_option maxRecDepth 100000
theorem decL_len (st : Int) (s : List S5) (b : List UInt8) : ∀ (L : List Int) (a : Int), (decL st s b L a).1.length ≤ L.length
  | [], a => by rw [decL]; exact Nat.le_refl _
  | n :: L, a => by
    rw [decL]
    split
    · simp
    · split
      · simp
      · have := decL_len st s b L (cellGet' st (findS n s).1 b a).2.1
        simp only [List.length_cons]; omega
theorem decM_len (x : Int × Int × List S5) (b : List UInt8) : (decM x b).1.2.length ≤ 128 := by
  rcases decM_cases x b with ⟨h1, -, -⟩ | ⟨-, -, -, -, -, h6⟩
  · rw [h1]; simp
  · rcases h6 with ⟨k1, -, -, -⟩ | ⟨-, k2, -⟩
    · rw [k1]; simp
    · rw [k2]
      exact Nat.le_trans (decL_len ..) (fromS_length _ _ _)
theorem decM_okM (x : Int × Int × List S5) (b : List UInt8) (hb : b.length ≤ 1000000) : okM (decM x b).1.2 := by
  refine ⟨by have := decM_len x b; omega, fun v hv => ?_⟩
  by_cases h : (decM x b).1.1 = []
  · rcases decM_cases x b with ⟨h1, -, -⟩ | ⟨-, h2, -⟩
    · rw [h1] at hv; cases hv
    · rw [h] at h2; cases h2
  · have hr := ((msgE_zero _ _ _).1.1 (decM_part h).1).2
    obtain ⟨-, hr⟩ := hr.mem_right hv
    have := specV_len hr.2
    rw [size_bl]; omega
end Go.Proofs.YtkaihbkfobiejaaGreatDoor.Xe
