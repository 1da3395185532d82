/- The law on messages that are the same. -/
import Derived.Test.YtkhmdcllookjkaaA16
import Derived.Test.YtkhmdcllookjkaaEr16
import Derived.Test.YtkhmdcllookjkaaXop
namespace Go.Proofs.Ytkhmdcllookjkaa.Xe
open Go Go.RowKit Go.Proofs.Ytkhmdcllookjkaa.Sp
set_option linter.unusedVariables false
set_option linter.unusedSimpArgs false
set_option maxRecDepth 100000
/-! ### groatlaw16_MsgSame -/
@[reducible] def groatlaw16_MsgSame.sg : List Shp := [.a (.pair (.str) (.sl (.pair (.int .i64) (.str)))), .a (.pair (.str) (.sl (.pair (.int .i64) (.str))))]
@[reducible] def groatlaw16_MsgSame.rs : Rs := .one (.v (.bool))
@[reducible] noncomputable def groatlaw16_MsgSame.code : Code := Try.f5.body.getD .skip
noncomputable def groatlaw16_MsgSame.C : Ctx := ⟨tab, [groatlaw16_awake.c, groatref16_Great.c, groatref16_Copy.c, groatref16_Same.c, msg_Same.c], [], ⟨[], []⟩⟩
theorem groatlaw16_MsgSame.eq (n : Nat) (a0 : ByteArray) (a1 : List ((Int × ByteArray))) (a2 : ByteArray) (a3 : List ((Int × ByteArray))) : call groatlaw16_MsgSame.C Try.f5 groatlaw16_MsgSame.code groatlaw16_MsgSame.sg groatlaw16_MsgSame.rs n ((a0, a1), (a2, a3)) =
  ((groatlaw16_awake.f ()).bind fun b0 =>
  (if ¬b0 = true then ((groatlaw16_awake.f ()).bind fun b1 =>
   (some (decide (b1 = true))))
  else ((groatref16_Great.f (a0, a1)).bind fun b2 =>
   (if b2 = true then ((groatlaw16_awake.f ()).bind fun b3 =>
    (some (decide (b3 = true))))
   else ((groatref16_Great.f (a2, a3)).bind fun b4 =>
    (if b4 = true then ((groatlaw16_awake.f ()).bind fun b5 =>
     (some (decide (b5 = true))))
    else ((msg_Same.f ((a0, a1), a2, a3)).bind fun b6 =>
     ((groatref16_Same.f ((a0, a1), a2, a3)).bind fun b7 =>
     (if decide (b6 = true) = decide (b7 = true) then ((msg_Same.f ((a2, a3), a0, a1)).bind fun b8 =>
      ((msg_Same.f ((a0, a1), a2, a3)).bind fun b9 =>
      (if decide (b8 = true) = decide (b9 = true) then ((groatref16_Copy.f (a0, a1)).bind fun b10 =>
       ((msg_Same.f ((a0, a1), b10)).bind fun b11 =>
       (some (decide (b11 = true)))))
      else (some false))))
     else (some false)))))))))) := by kernel_rfl
theorem groatlaw16_MsgSame.ok : CtxOk Try.prog groatlaw16_MsgSame.C := ⟨AllOk.all (show AllOk groatlaw16_MsgSame.C.G from ⟨groatlaw16_awake.con, groatref16_Great.con, groatref16_Copy.con, groatref16_Same.con, msg_Same.con, trivial⟩), fun c hc => absurd (show c ∈ ([] : List ConS) from hc) (by simp)⟩
theorem groatlaw16_MsgSame.holds (x : (ByteArray × List V) × ByteArray × List V) (w : (x.1.1.size ≤ 140737488351232 ∧ (x.1.2.length ≤ 140737488351232 ∧ ∀ v ∈ x.1.2, Wf (.pair (.int .i64) .str) v)) ∧ (x.2.1.size ≤ 140737488351232 ∧ (x.2.2.length ≤ 140737488351232 ∧ ∀ v ∈ x.2.2, Wf (.pair (.int .i64) .str) v))) : ∃ n, call groatlaw16_MsgSame.C Try.f5 groatlaw16_MsgSame.code groatlaw16_MsgSame.sg groatlaw16_MsgSame.rs n x = some true := by
  obtain ⟨⟨t, l⟩, u, m⟩ := x
  refine ⟨0, ?_⟩
  rw [groatlaw16_MsgSame.eq]
  simp only [groatlaw16_awake.f, Option.bind_some, not_true_eq_false, if_false, groatref16_Great]
  cases g1 : great t l with
  | true => simp
  | false =>
    rw [if_neg (by simp)]
    cases g2 : great u m with
    | true => simp
    | false =>
      obtain ⟨-, hl, -⟩ := great_no g1
      obtain ⟨-, hm, -⟩ := great_no g2
      rw [if_neg (by simp), msg_Same t u l m (by omega), Option.bind_some, groatref16_Same t u l m (by omega), Option.bind_some, msg_Same u t m l (by omega), Option.bind_some, Option.bind_some, groatref16_Copy t l (by omega), Option.bind_some, msg_Same t t l l (by omega), Option.bind_some]
      have e1 : decide (t = u ∧ l = m) = decide ((t, l) = (u, m)) := decide_eq_decide.2 (by simp)
      have e2 : decide (u = t ∧ m = l) = decide (t = u ∧ l = m) := decide_eq_decide.2 ⟨fun h => ⟨h.1.symm, h.2.symm⟩, fun h => ⟨h.1.symm, h.2.symm⟩⟩
      rw [e2, ← e1, if_pos rfl, if_pos rfl, decide_eq_true (⟨rfl, rfl⟩ : t = t ∧ l = l)]; rfl
end Go.Proofs.Ytkhmdcllookjkaa.Xe
