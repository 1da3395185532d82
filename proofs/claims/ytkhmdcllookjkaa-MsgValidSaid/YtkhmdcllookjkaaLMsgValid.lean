/- The law on right messages. -/
import Derived.Test.YtkhmdcllookjkaaLMsgChecks
import Derived.Test.YtkhmdcllookjkaaNMsgV
namespace Go.Proofs.Ytkhmdcllookjkaa.Xe
open Go Go.RowKit Go.Proofs.Ytkhmdcllookjkaa.Sp
set_option linter.unusedVariables false
set_option linter.unusedSimpArgs false
set_option maxRecDepth 100000
/-! ### groatlaw16_MsgValid -/
@[reducible] def groatlaw16_MsgValid.sg : List Shp := [.a (.pair (.int .i64) (.pair (.int .i64) (.sl (.pair (.int .i64) (.pair (.int .i64) (.pair (.int .i64) (.pair (.int .i64) (.int .i64)))))))), .a (.pair (.str) (.sl (.pair (.int .i64) (.str)))), .a (.pair (.int .i64) (.str))]
@[reducible] def groatlaw16_MsgValid.rs : Rs := .one (.v (.bool))
@[reducible] noncomputable def groatlaw16_MsgValid.code : Code := Try.f6.body.getD .skip
noncomputable def groatlaw16_MsgValid.C : Ctx := ⟨tab, [groatlaw16_awake.c, groatref16_Great.c, msg_Check.c, groatref16_Check.c, msg_With.c, msg_Without.c], [], ⟨[], []⟩⟩
theorem groatlaw16_MsgValid.eq (n : Nat) (a0 : Int) (a1 : Int) (a2 : List ((Int × (Int × (Int × (Int × Int)))))) (a3 : ByteArray) (a4 : List ((Int × ByteArray))) (a5 : Int) (a6 : ByteArray) : call groatlaw16_MsgValid.C Try.f6 groatlaw16_MsgValid.code groatlaw16_MsgValid.sg groatlaw16_MsgValid.rs n ((a0, (a1, a2)), ((a3, a4), (a5, a6))) =
  ((groatlaw16_awake.f ()).bind fun b0 =>
  (if ¬b0 = true then ((groatlaw16_awake.f ()).bind fun b1 =>
   (some (decide (b1 = true))))
  else (if (↑(List.length a2) : Int) > 200 then ((groatlaw16_awake.f ()).bind fun b2 =>
    (some (decide (b2 = true))))
   else ((groatref16_Great.f (a3, a4)).bind fun b3 =>
    (if b3 = true then ((groatlaw16_awake.f ()).bind fun b4 =>
     (some (decide (b4 = true))))
    else (if (↑(ByteArray.size a6) : Int) > 1000 then ((groatlaw16_awake.f ()).bind fun b5 =>
      (some (decide (b5 = true))))
     else ((msg_Check.f ((a0, a1, a2), a3, a4)).bind fun b6 =>
      (if ¬(Prod.fst b6 = 0 ∧ Prod.snd b6 = 0 ∧ True) then ((groatlaw16_awake.f ()).bind fun b7 =>
       (some (decide (b7 = true))))
      else ((msg_Without.f ((a3, a4), a5)).bind fun b8 =>
       ((msg_Check.f ((a0, a1, a2), b8)).bind fun b9 =>
       (if ¬(Prod.fst b9 = 0 ∧ Prod.snd b9 = 0 ∧ True) then (some false)
       else ((groatref16_Check.f ((a0, a1, a2), a3, [(a5, a6)])).bind fun b10 =>
        ((msg_With.f ((a3, a4), a5, a6)).bind fun b11 =>
        ((msg_Check.f ((a0, a1, a2), b11)).bind fun b12 =>
        (some (decide (decide (Prod.fst b12 = 0 ∧ Prod.snd b12 = 0 ∧ True) = decide (Prod.fst b10 = 0 ∧ Prod.snd b10 = 0 ∧ True)))))))))))))))))) := by kernel_rfl
theorem groatlaw16_MsgValid.ok : CtxOk Try.prog groatlaw16_MsgValid.C := ⟨AllOk.all (show AllOk groatlaw16_MsgValid.C.G from ⟨groatlaw16_awake.con, groatref16_Great.con, msg_Check.con, groatref16_Check.con, msg_With.con, msg_Without.con, trivial⟩), fun c hc => absurd (show c ∈ ([] : List ConS) from hc) (by simp)⟩
theorem okM_without {l : List V} (h : okM l) (n : Int) : okM (without n l) := by
  refine ⟨Nat.le_trans (without_length n l) h.1, fun v hv => h.2 v ?_⟩
  unfold without at hv
  exact (List.mem_filter.1 hv).1
theorem mem_ins {n : Int} {x : ByteArray} : ∀ {l : List V} {v : V}, v ∈ insV n x l → v = (n, x) ∨ v ∈ l
  | [], v, h => by simpa [insV] using h
  | u :: m, v, h => by
    rw [insV] at h
    split at h
    · rcases List.mem_cons.1 h with h | h
      · exact .inl h
      · exact .inr h
    · rcases List.mem_cons.1 h with h | h
      · exact .inr (by rw [h]; exact List.mem_cons_self ..)
      · rcases mem_ins h with h | h
        · exact .inl h
        · exact .inr (List.mem_cons_of_mem _ h)
theorem groatlaw16_MsgValid.holds (x : (Int × Int × List S5) × (ByteArray × List V) × Int × ByteArray) (w : Wf (.pair (.pair (.int .i64) (.pair (.int .i64) (.sl (.pair (.int .i64) (.pair (.int .i64) (.pair (.int .i64) (.pair (.int .i64) (.int .i64)))))))) (.pair (.pair .str (.sl (.pair (.int .i64) .str))) (.pair (.int .i64) .str))) x) : ∃ n, call groatlaw16_MsgValid.C Try.f6 groatlaw16_MsgValid.code groatlaw16_MsgValid.sg groatlaw16_MsgValid.rs n x = some true := by
  obtain ⟨⟨a, b, s⟩, ⟨t, l⟩, n, z⟩ := x
  obtain ⟨t, rfl⟩ := ex_sb t
  refine ⟨0, ?_⟩
  rw [groatlaw16_MsgValid.eq]
  simp only [groatlaw16_awake.f, Option.bind_some, not_true_eq_false, if_false, groatref16_Great]
  by_cases c : (s.length : Int) > 200
  · rw [if_pos c]; simp
  rw [if_neg c]
  cases g1 : great (sb t) l with
  | true => simp
  | false =>
    rw [if_neg (by simp)]
    by_cases c2 : (z.size : Int) > 1000
    · rw [if_pos c2]; simp
    rw [if_neg c2]
    obtain ⟨-, hl, -⟩ := great_no g1
    have ho := okM_great g1
    rw [msg_Check a b s t l (by omega) ho, Option.bind_some]
    by_cases c3 : msgE (a, b, s) t l = (0, 0)
    · rw [if_neg (by rw [c3]; exact fun e => e ⟨rfl, rfl, trivial⟩)]
      have hw := okM_without ho n
      obtain ⟨k, hr⟩ := (msgE_zero (a, b, s) t l).1.1 c3
      have e1 : msgE (a, b, s) t (without n l) = (0, 0) := (msgE_zero _ _ _).1.2 ⟨k, hr.without n⟩
      have h1 : okM [(n, z)] := ⟨by simp, fun v hv => by rw [List.mem_singleton.1 hv]; show z.size ≤ _; omega⟩
      have h2 : okM (withV n z l) := by
        refine ⟨?_, fun v hv => ?_⟩
        · have := without_length n l
          unfold withV
          rw [insV_cut, List.length_append, List.length_append, List.length_take, List.length_drop, List.length_singleton]
          have := hw.1
          omega
        · rcases mem_ins hv with rfl | hv
          · show z.size ≤ _; omega
          · exact hw.2 v hv
      rw [msg_Without (sb t) l (by omega), Option.bind_some, msg_Check a b s t _ (by omega) hw, Option.bind_some, e1, if_neg (fun e => e ⟨rfl, rfl, trivial⟩), groatref16_Check a b s t _ (by omega) h1, Option.bind_some, msg_With (sb t) l (by omega), Option.bind_some, msg_Check a b s t _ (by omega) h2, Option.bind_some]
      congr 1
      refine decide_eq_true (decide_eq_decide.2 ?_)
      have q : ∀ y : Int × Int, (y.1 = 0 ∧ y.2 = 0 ∧ True) ↔ y = (0, 0) := fun y => ⟨fun h => Prod.ext h.1 h.2.1, fun h => by rw [h]; exact ⟨rfl, rfl, trivial⟩⟩
      rw [q, q, (msgE_zero _ _ _).1, (msgE_zero _ _ _).1]
      have i1 := Rise.ins (x := z) (without_ne n l) (hr.without n)
      have i2 : Rise s 0 [(n, z)] ↔ 0 < n ∧ rightV s (n, z) := Rise.ins (l := []) (fun v hv => by cases hv) .nil
      exact ⟨fun h => ⟨h.1, i2.2 (i1.1 h.2)⟩, fun h => ⟨h.1, i1.2 (i2.1 h.2)⟩⟩
    · rw [if_pos (fun e => c3 (Prod.ext e.1 e.2.1))]; simp
end Go.Proofs.Ytkhmdcllookjkaa.Xe
