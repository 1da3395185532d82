/- The law WireTypes. -/
import Derived.Test.YtjbhknfdfnilbaaA17
import Derived.Test.YtjbhknfdfnilbaaEr17
import Derived.Test.YtjbhknfdfnilbaaEr13
import Derived.Test.YtjbhknfdfnilbaaXop
namespace Go.Proofs.Ytjbhknfdfnilbaa.Xe
open Go Go.RowKit Go.Proofs.Ytjbhknfdfnilbaa.Sp
set_option linter.unusedVariables false
set_option linter.unusedSimpArgs false
set_option maxRecDepth 100000
/-! ### groatlaw17_WireTypes -/
@[reducible] def groatlaw17_WireTypes.sg : List Shp := [.v (.int .i64), .v (.str)]
@[reducible] def groatlaw17_WireTypes.rs : Rs := .one (.v (.bool))
@[reducible] noncomputable def groatlaw17_WireTypes.code : Code := Try.f3.body.getD .skip
noncomputable def groatlaw17_WireTypes.C : Ctx := ⟨tab, [groatlaw17_awake.c, wire_Type.c, groatref15_Right.c, groatref17_Type.c], [], ⟨[], []⟩⟩
theorem groatlaw17_WireTypes.eq (n : Nat) (a0 : Int) (a1 : ByteArray) : call groatlaw17_WireTypes.C Try.f3 groatlaw17_WireTypes.code groatlaw17_WireTypes.sg groatlaw17_WireTypes.rs n (a0, a1) =
  ((groatlaw17_awake.f ()).bind fun b0 =>
  (if ¬b0 = true then ((groatlaw17_awake.f ()).bind fun b1 =>
   (some (decide (b1 = true))))
  else (if (↑(ByteArray.size a1) : Int) > 100 then ((groatlaw17_awake.f ()).bind fun b2 =>
    (some (decide (b2 = true))))
   else ((wire_Type.f (a0, a1)).bind fun b3 =>
    (if ¬a0 = 1 then (if ¬a0 = 2 then (if ¬Prod.snd b3 = true then (some (decide (Prod.fst b3 = ByteArray.mk #[])))
      else (some false))
     else ((groatref15_Right.f a1).bind fun b4 =>
      (if ¬b4 = true then (if ¬Prod.snd b3 = true then (some (decide (Prod.fst b3 = ByteArray.mk #[])))
       else (some false))
      else (if Prod.snd b3 = true then ((groatref17_Type.f (a0, a1)).bind fun b5 =>
        (some (decide (Prod.fst b3 = b5))))
       else (some false)))))
    else ((groatref15_Right.f a1).bind fun b6 =>
     (if ¬b6 = true then (if ¬Prod.snd b3 = true then (some (decide (Prod.fst b3 = ByteArray.mk #[])))
      else (some false))
     else (if Prod.snd b3 = true then ((groatref17_Type.f (a0, a1)).bind fun b7 =>
       (some (decide (Prod.fst b3 = b7))))
      else (some false))))))))) := by kernel_rfl
theorem groatlaw17_WireTypes.ok : CtxOk Try.prog groatlaw17_WireTypes.C := ⟨AllOk.all (show AllOk groatlaw17_WireTypes.C.G from ⟨groatlaw17_awake.con, wire_Type.con, groatref15_Right.con, groatref17_Type.con, trivial⟩), fun c hc => absurd (show c ∈ ([] : List ConS) from hc) (by simp)⟩
theorem groatlaw17_WireTypes.holds (x : Int × ByteArray) (w : Wf (sgTy groatlaw17_WireTypes.sg) x) : ∃ n, call groatlaw17_WireTypes.C Try.f3 groatlaw17_WireTypes.code groatlaw17_WireTypes.sg groatlaw17_WireTypes.rs n x = some true := by
  obtain ⟨a, t⟩ := x
  obtain ⟨t, rfl⟩ := ex_sb t
  refine ⟨0, ?_⟩
  rw [groatlaw17_WireTypes.eq]
  simp only [groatlaw17_awake.f, Option.bind_some, not_true_eq_false, if_false]
  rw [size_sb]
  by_cases c : (t.length : Int) > 100
  · rw [if_pos c]; simp
  rw [if_neg c, wire_Type, Option.bind_some, groatref15_Right, Option.bind_some]
  dsimp only
  have no : ¬ (right t = true ∧ (a = 1 ∨ a = 2)) → typeOk a t = false ∧ sb (typeB a t) = ByteArray.mk #[] := fun h => by
    unfold typeOk typeB
    by_cases c1 : right t = true
    · have c2 : ¬ (a = 1 ∨ a = 2) := fun q => h ⟨c1, q⟩
      rw [if_pos c1, if_neg (fun q => c2 (.inl q)), if_neg (fun q => c2 (.inr q)), decide_eq_false c2, Bool.and_false]
      exact ⟨rfl, rfl⟩
    · rw [if_neg c1, Bool.eq_false_iff.2 c1]
      exact ⟨rfl, rfl⟩
  by_cases hs : a = 1 ∨ a = 2
  · have key : (if ¬right t = true then (if ¬typeOk a t = true then some (decide (sb (typeB a t) = ByteArray.mk #[])) else some false)
        else (if typeOk a t = true then (groatref17_Type.f (a, sb t)).bind fun b5 => some (decide (sb (typeB a t) = b5)) else some false)) = some true := by
      by_cases hr : right t = true
      · have hk : typeOk a t = true := by unfold typeOk; rw [hr, decide_eq_true hs]; rfl
        rw [if_neg (not_not_intro hr), if_pos hk, groatref17_Type a t hs hr, Option.bind_some, decide_eq_true rfl]
      · obtain ⟨n1, n2⟩ := no fun q => hr q.1
        rw [if_pos hr, n1, n2, if_pos (by simp)]; simp
    rcases hs with rfl | rfl
    · rw [if_neg (by decide)]; exact key
    · rw [if_pos (by decide), if_neg (by decide)]; exact key
  · obtain ⟨n1, n2⟩ := no fun q => hs q.2
    rw [if_pos (fun q => hs (.inl q)), if_pos (fun q => hs (.inr q)), n1, n2, if_pos (by simp)]; simp
end Go.Proofs.Ytjbhknfdfnilbaa.Xe
