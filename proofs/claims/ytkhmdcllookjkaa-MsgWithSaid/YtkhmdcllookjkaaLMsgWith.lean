/- The law on messages with a value more, and with one less. -/
import Derived.Test.YtkhmdcllookjkaaA16
import Derived.Test.YtkhmdcllookjkaaEr16
import Derived.Test.YtkhmdcllookjkaaXop
namespace Go.Proofs.Ytkhmdcllookjkaa.Xe
open Go Go.RowKit Go.Proofs.Ytkhmdcllookjkaa.Sp
set_option linter.unusedVariables false
set_option linter.unusedSimpArgs false
set_option maxRecDepth 100000
theorem withV_length (n : Int) (x : ByteArray) (l : List V) : (withV n x l).length ≤ l.length + 1 := by
  unfold withV
  rw [insV_cut, List.length_append, List.length_append, List.length_take, List.length_drop, List.length_singleton]
  have := without_length n l
  omega
/-! ### groatlaw16_MsgWith -/
@[reducible] def groatlaw16_MsgWith.sg : List Shp := [.a (.pair (.str) (.sl (.pair (.int .i64) (.str)))), .v (.int .i64), .v (.str)]
@[reducible] def groatlaw16_MsgWith.rs : Rs := .one (.v (.bool))
@[reducible] noncomputable def groatlaw16_MsgWith.code : Code := Try.f4.body.getD .skip
noncomputable def groatlaw16_MsgWith.C : Ctx := ⟨tab, [groatlaw16_awake.c, groatref16_Great.c, groatref16_Copy.c, msg_With.c, msg_Without.c, msg_Get.c, groatref16_Same.c, groatref16_With.c, groatref16_Without.c], [], ⟨[], []⟩⟩
theorem groatlaw16_MsgWith.eq (n : Nat) (a0 : ByteArray) (a1 : List ((Int × ByteArray))) (a2 : Int) (a3 : ByteArray) : call groatlaw16_MsgWith.C Try.f4 groatlaw16_MsgWith.code groatlaw16_MsgWith.sg groatlaw16_MsgWith.rs n ((a0, a1), (a2, a3)) =
  ((groatlaw16_awake.f ()).bind fun b0 =>
  (if ¬b0 = true then ((groatlaw16_awake.f ()).bind fun b1 =>
   (some (decide (b1 = true))))
  else ((groatref16_Great.f (a0, a1)).bind fun b2 =>
   (if b2 = true then ((groatlaw16_awake.f ()).bind fun b3 =>
    (some (decide (b3 = true))))
   else (if (↑(ByteArray.size a3) : Int) > 1000 then ((groatlaw16_awake.f ()).bind fun b4 =>
     (some (decide (b4 = true))))
    else ((groatref16_Copy.f (a0, a1)).bind fun b5 =>
     ((msg_With.f (b5, a2, a3)).bind fun b6 =>
     ((msg_Without.f (b5, a2)).bind fun b7 =>
     ((msg_Get.f (b6, a2)).bind fun b8 =>
     ((msg_Get.f (b7, a2)).bind fun b9 =>
     ((groatref16_With.f ((a0, a1), a2, a3)).bind fun b10 =>
     ((groatref16_Same.f (b6, b10)).bind fun b11 =>
     (if b11 = true then ((groatref16_Without.f ((a0, a1), a2)).bind fun b12 =>
      ((groatref16_Same.f (b7, b12)).bind fun b13 =>
      (if b13 = true then (if Prod.fst b8 = a3 then (if Prod.snd b8 = true then (if ¬Prod.snd b9 = true then ((groatref16_Same.f (b5, a0, a1)).bind fun b14 =>
          (some (decide (b14 = true))))
         else (some false))
        else (some false))
       else (some false))
      else (some false))))
     else (some false)))))))))))))) := by kernel_rfl
theorem groatlaw16_MsgWith.ok : CtxOk Try.prog groatlaw16_MsgWith.C := ⟨AllOk.all (show AllOk groatlaw16_MsgWith.C.G from ⟨groatlaw16_awake.con, groatref16_Great.con, groatref16_Copy.con, msg_With.con, msg_Without.con, msg_Get.con, groatref16_Same.con, groatref16_With.con, groatref16_Without.con, trivial⟩), fun c hc => absurd (show c ∈ ([] : List ConS) from hc) (by simp)⟩
theorem groatlaw16_MsgWith.holds (x : (ByteArray × List V) × Int × ByteArray) (w : (x.1.1.size ≤ 140737488351232 ∧ (x.1.2.length ≤ 140737488351232 ∧ ∀ v ∈ x.1.2, Wf (.pair (.int .i64) .str) v)) ∧ (Lit.int .i64 x.2.1).wf = true ∧ x.2.2.size ≤ 140737488351232) : ∃ n, call groatlaw16_MsgWith.C Try.f4 groatlaw16_MsgWith.code groatlaw16_MsgWith.sg groatlaw16_MsgWith.rs n x = some true := by
  obtain ⟨⟨t, l⟩, n, z⟩ := x
  refine ⟨0, ?_⟩
  rw [groatlaw16_MsgWith.eq]
  simp only [groatlaw16_awake.f, Option.bind_some, not_true_eq_false, if_false, groatref16_Great]
  cases g1 : great t l with
  | true => simp
  | false =>
    obtain ⟨-, hl, -⟩ := great_no g1
    rw [if_neg (by simp)]
    by_cases c : (z.size : Int) > 1000
    · rw [if_pos c]; simp
    · have h1 := withV_length n z l
      have h2 := without_length n l
      rw [if_neg c, groatref16_Copy t l (by omega), Option.bind_some, msg_With t l (by omega), Option.bind_some, msg_Without t l (by omega), Option.bind_some, msg_Get t _ (by omega), Option.bind_some, msg_Get t _ (by omega), Option.bind_some, groatref16_With t l (by omega), Option.bind_some, groatref16_Same t t _ _ (by omega), Option.bind_some, groatref16_Without t l (by omega), Option.bind_some, groatref16_Same t t _ _ (by omega), Option.bind_some, groatref16_Same t t l l (by omega), Option.bind_some, getV_with, getV_without]
      simp
end Go.Proofs.Ytkhmdcllookjkaa.Xe
