/- The law on the check of messages. -/
import Derived.Test.YtkhmdcllookjkaaA16
import Derived.Test.YtkhmdcllookjkaaEr13
import Derived.Test.YtkhmdcllookjkaaXop
namespace Go.Proofs.Ytkhmdcllookjkaa.Xe
open Go Go.RowKit Go.Proofs.Ytkhmdcllookjkaa.Sp
set_option linter.unusedVariables false
set_option linter.unusedSimpArgs false
set_option maxRecDepth 100000
theorem okM_great {t : ByteArray} {l : List V} (h : great t l = false) : okM l := by
  obtain ⟨-, h1, h2⟩ := great_no h
  exact ⟨by omega, fun v hv => by have := h2 v hv; omega⟩
/-! ### groatlaw16_MsgChecks -/
@[reducible] def groatlaw16_MsgChecks.sg : List Shp := [.a (.pair (.int .i64) (.pair (.int .i64) (.sl (.pair (.int .i64) (.pair (.int .i64) (.pair (.int .i64) (.pair (.int .i64) (.int .i64)))))))), .a (.pair (.str) (.sl (.pair (.int .i64) (.str))))]
@[reducible] def groatlaw16_MsgChecks.rs : Rs := .one (.v (.bool))
@[reducible] noncomputable def groatlaw16_MsgChecks.code : Code := Try.f3.body.getD .skip
noncomputable def groatlaw16_MsgChecks.C : Ctx := ⟨tab, [groatlaw16_awake.c, groatref16_Great.c, msg_Check.c, groatref13_Copy.c, groatref16_Copy.c, groatref16_Check.c], [], ⟨[], []⟩⟩
theorem groatlaw16_MsgChecks.eq (n : Nat) (a0 : Int) (a1 : Int) (a2 : List ((Int × (Int × (Int × (Int × Int)))))) (a3 : ByteArray) (a4 : List ((Int × ByteArray))) : call groatlaw16_MsgChecks.C Try.f3 groatlaw16_MsgChecks.code groatlaw16_MsgChecks.sg groatlaw16_MsgChecks.rs n ((a0, (a1, a2)), (a3, a4)) =
  ((groatlaw16_awake.f ()).bind fun b0 =>
  (if ¬b0 = true then ((groatlaw16_awake.f ()).bind fun b1 =>
   (some (decide (b1 = true))))
  else (if (↑(List.length a2) : Int) > 200 then ((groatlaw16_awake.f ()).bind fun b2 =>
    (some (decide (b2 = true))))
   else ((groatref16_Great.f (a3, a4)).bind fun b3 =>
    (if b3 = true then ((groatlaw16_awake.f ()).bind fun b4 =>
     (some (decide (b4 = true))))
    else ((groatref13_Copy.f (a0, a1, a2)).bind fun b5 =>
     ((groatref16_Copy.f (a3, a4)).bind fun b6 =>
     ((msg_Check.f (b5, b6)).bind fun b7 =>
     ((groatref16_Check.f ((a0, a1, a2), a3, a4)).bind fun b8 =>
     (some (decide (Prod.fst b7 = Prod.fst b8 ∧ Prod.snd b7 = Prod.snd b8 ∧ True)))))))))))) := by kernel_rfl
theorem groatlaw16_MsgChecks.ok : CtxOk Try.prog groatlaw16_MsgChecks.C := ⟨AllOk.all (show AllOk groatlaw16_MsgChecks.C.G from ⟨groatlaw16_awake.con, groatref16_Great.con, msg_Check.con, groatref13_Copy.con, groatref16_Copy.con, groatref16_Check.con, trivial⟩), fun c hc => absurd (show c ∈ ([] : List ConS) from hc) (by simp)⟩
theorem groatlaw16_MsgChecks.holds (x : (Int × Int × List S5) × ByteArray × List V) (w : Wf (.pair (.pair (.int .i64) (.pair (.int .i64) (.sl (.pair (.int .i64) (.pair (.int .i64) (.pair (.int .i64) (.pair (.int .i64) (.int .i64)))))))) (.pair .str (.sl (.pair (.int .i64) .str)))) x) : ∃ n, call groatlaw16_MsgChecks.C Try.f3 groatlaw16_MsgChecks.code groatlaw16_MsgChecks.sg groatlaw16_MsgChecks.rs n x = some true := by
  obtain ⟨⟨a, b, s⟩, t, l⟩ := x
  obtain ⟨t, rfl⟩ := ex_sb t
  refine ⟨0, ?_⟩
  rw [groatlaw16_MsgChecks.eq]
  simp only [groatlaw16_awake.f, Option.bind_some, not_true_eq_false, if_false, groatref16_Great]
  by_cases c : (s.length : Int) > 200
  · rw [if_pos c]; simp
  rw [if_neg c]
  cases g1 : great (sb t) l with
  | true => simp
  | false =>
    obtain ⟨-, hl, -⟩ := great_no g1
    have ho := okM_great g1
    rw [if_neg (by simp), groatref13_Copy a b s (by omega), Option.bind_some, groatref16_Copy (sb t) l (by omega), Option.bind_some, msg_Check a b s t l (by omega) ho, Option.bind_some, groatref16_Check a b s t l (by omega) ho, Option.bind_some, decide_eq_true ⟨rfl, rfl, trivial⟩]
end Go.Proofs.Ytkhmdcllookjkaa.Xe
