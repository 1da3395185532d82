/- The law on the answer to a right message. -/
import Derived.Test.YtkhmdcllookjkaaA23
import Derived.Test.YtkhmdcllookjkaaEr23c
import Derived.Test.YtkhmdcllookjkaaNRejV
import Derived.Test.YtkhmdcllookjkaaXop
namespace Go.Proofs.Ytkhmdcllookjkaa.Xe
open Go Go.RowKit Go.Proofs.Ytkhmdcllookjkaa.Sp
set_option linter.unusedVariables false
set_option linter.unusedSimpArgs false
set_option maxRecDepth 100000
/-! ### groatlaw23_RejectValid -/
@[reducible] def groatlaw23_RejectValid.sg : List Shp := [.a (.pair (.pair (.int .i64) (.pair (.int .i64) (.sl (.pair (.int .i64) (.pair (.int .i64) (.pair (.int .i64) (.pair (.int .i64) (.int .i64)))))))) (.pair (.pair (.sl (.pair (.str) (.str))) (.sl (.pair (.int .i64) (.pair (.int .i64) (.pair (.int .i64) (.pair (.str) (.sl (.pair (.str) (.str))))))))) (.pair (.sl (.int .i64)) (.sl (.pair (.int .i64) (.str)))))), .a (.pair (.str) (.sl (.pair (.int .i64) (.str)))), .a (.pair (.int .i64) (.int .i64))]
@[reducible] def groatlaw23_RejectValid.rs : Rs := .one (.v (.bool))
@[reducible] noncomputable def groatlaw23_RejectValid.code : Code := Try.f12.body.getD .skip
noncomputable def groatlaw23_RejectValid.C : Ctx := ⟨tab, [groatref16_Great.c, msg_Check.c, groatref16_Check.c, groatref16_Same.c, groatlaw23_awake.c, groatref23_Great.c, reject_Build.c, groatref23_Right.c, mti_Request.c], [], ⟨[], []⟩⟩
theorem groatlaw23_RejectValid.eq (n : Nat) (a0 : Int) (a1 : Int) (a2 : List ((Int × (Int × (Int × (Int × Int)))))) (a3 : List ((ByteArray × ByteArray))) (a4 : List ((Int × (Int × (Int × (ByteArray × List ((ByteArray × ByteArray)))))))) (a5 : List Int) (a6 : List ((Int × ByteArray))) (a7 : ByteArray) (a8 : List ((Int × ByteArray))) (a9 : Int) (a10 : Int) : call groatlaw23_RejectValid.C Try.f12 groatlaw23_RejectValid.code groatlaw23_RejectValid.sg groatlaw23_RejectValid.rs n (((a0, (a1, a2)), ((a3, a4), (a5, a6))), ((a7, a8), (a9, a10))) =
  ((groatlaw23_awake.f ()).bind fun b0 =>
  (if ¬b0 = true then ((groatlaw23_awake.f ()).bind fun b1 =>
   (some (decide (b1 = true))))
  else ((groatref23_Great.f ((a0, a1, a2), (a3, a4), a5, a6)).bind fun b2 =>
   (if b2 = true then ((groatlaw23_awake.f ()).bind fun b3 =>
    (some (decide (b3 = true))))
   else ((groatref16_Great.f (a7, a8)).bind fun b4 =>
    (if b4 = true then ((groatlaw23_awake.f ()).bind fun b5 =>
     (some (decide (b5 = true))))
    else ((groatref23_Right.f ((a0, a1, a2), (a3, a4), a5, a6)).bind fun b6 =>
     (if ¬b6 = true then ((groatlaw23_awake.f ()).bind fun b7 =>
      (some (decide (b7 = true))))
     else ((groatref16_Check.f ((a0, a1, a2), a7, a8)).bind fun b8 =>
      (if ¬(Prod.fst b8 = 0 ∧ Prod.snd b8 = 0 ∧ True) then ((groatlaw23_awake.f ()).bind fun b9 =>
       (some (decide (b9 = true))))
      else ((reject_Build.f (((a0, a1, a2), (a3, a4), a5, a6), (a7, a8), a9, a10)).bind fun b10 =>
       (if ¬Prod.snd b10 = true then ((mti_Request.f a7).bind fun b11 =>
        (if ¬b11 = true then ((groatref16_Same.f (Prod.fst b10, ByteArray.mk #[], [])).bind fun b12 =>
         (some (decide (b12 = true))))
        else (some false)))
       else ((msg_Check.f ((a0, a1, a2), Prod.fst b10)).bind fun b13 =>
        (if Prod.fst b13 = 0 ∧ Prod.snd b13 = 0 ∧ True then ((mti_Request.f (Prod.fst (Prod.fst b10))).bind fun b14 =>
         (some (decide ¬b14 = true)))
        else (some false))))))))))))))) := by kernel_rfl
theorem groatlaw23_RejectValid.ok : CtxOk Try.prog groatlaw23_RejectValid.C := ⟨AllOk.all (show AllOk groatlaw23_RejectValid.C.G from ⟨groatref16_Great.con, msg_Check.con, groatref16_Check.con, groatref16_Same.con, groatlaw23_awake.con, groatref23_Great.con, reject_Build.con, groatref23_Right.con, mti_Request.con, trivial⟩), fun c hc => absurd (show c ∈ ([] : List ConS) from hc) (by simp)⟩
theorem okM_ins {l : List V} (n : Int) (x : ByteArray) (h : l.length ≤ 999999 ∧ ∀ v ∈ l, v.2.size ≤ 1000000000000) (hx : x.size ≤ 1000000000000) : okM (withV n x l) := by
  have hw := without_length n l
  refine ⟨?_, fun v hv => ?_⟩
  · unfold withV
    rw [insV_cut, List.length_append, List.length_append, List.length_take, List.length_drop, List.length_singleton]
    omega
  · unfold withV at hv
    rw [insV_cut] at hv
    rcases List.mem_append.1 hv with hv | hv
    · rcases List.mem_append.1 hv with hv | hv
      · exact h.2 v ((List.mem_filter.1 (List.mem_of_mem_take hv)).1)
      · rw [List.mem_singleton.1 hv]; exact hx
    · exact h.2 v ((List.mem_filter.1 (List.mem_of_mem_drop hv)).1)
theorem getV_size {n : Int} {l : List V} {k : Nat} (h : ∀ v ∈ l, v.2.size ≤ k) : (getV n l).1.size ≤ k := by
  cases c : (getV n l).2 with
  | true => exact h _ (getV_mem n c)
  | false =>
    have : getV n l = (sb [], false) := by
      rcases findV_get n l 0 with ⟨-, h2⟩ | ⟨k, -, hk, h3⟩
      · exact h2
      · rw [h3] at c; cases c
    rw [this]; exact Nat.zero_le _
theorem okM_echoed {l : List V} (hl : ∀ v ∈ l, v.2.size ≤ 1000000000000) : ∀ (m : List Int) (o : List V), o.length + m.length ≤ 999999 → (∀ v ∈ o, v.2.size ≤ 1000000000000) → (echoed l m o).length ≤ 999999 ∧ ∀ v ∈ echoed l m o, v.2.size ≤ 1000000000000
  | [], o, h1, h2 => ⟨by show o.length ≤ 999999; simpa using h1, h2⟩
  | x :: m, o, h1, h2 => by
    rw [List.length_cons] at h1
    rw [echoed]
    split
    · have hw := withV_length' x (getV x l).1 o
      exact okM_echoed hl m _ (by omega) (okM_ins x _ ⟨by omega, h2⟩ (getV_size hl)).2
    · exact okM_echoed hl m o (by omega) h2
theorem groatlaw23_RejectValid.holds (x : RJ × (ByteArray × List V) × Int × Int) (w : Wf (sgTy groatlaw23_RejectValid.sg) x) : ∃ n, call groatlaw23_RejectValid.C Try.f12 groatlaw23_RejectValid.code groatlaw23_RejectValid.sg groatlaw23_RejectValid.rs n x = some true := by
  obtain ⟨⟨⟨q1, q2, s⟩, ⟨c1, c2⟩, e, l⟩, ⟨t, g⟩, y, z⟩ := x
  obtain ⟨t, rfl⟩ := ex_sb t
  refine ⟨0, ?_⟩
  rw [groatlaw23_RejectValid.eq]
  simp only [groatlaw23_awake.f, Option.bind_some, not_true_eq_false, if_false, groatref23_Great, groatref16_Great]
  cases g1 : greatR ((q1, q2, s), (c1, c2), e, l) with
  | true => simp
  | false =>
    cases g2 : great (sb t) g with
    | true => simp
    | false =>
      obtain ⟨h1, h2, h3, h4⟩ := greatR_no g1
      obtain ⟨i1, i2, i3⟩ := great_no g2
      rw [size_sb] at i1
      dsimp only at h1 h2 h3
      have hl : okM l := ⟨by omega, fun v hv => by have := h4 v hv; omega⟩
      have hg : okM g := ⟨by omega, fun v hv => by have := i3 v hv; omega⟩
      rw [if_neg (by simp), if_neg (by simp), groatref23_Right _ ⟨by dsimp only; omega, by dsimp only; omega, hl⟩, Option.bind_some]
      by_cases k1 : (rejE ((q1, q2, s), (c1, c2), e, l)).1 = 0
      · rw [decide_eq_true k1, if_neg (by simp), groatref16_Check q1 q2 s t g (by omega) hg, Option.bind_some]
        by_cases k2 : msgE (q1, q2, s) t g = (0, 0)
        · rw [k2, if_neg (fun q => q ⟨rfl, rfl, trivial⟩), reject_Build _ _ e (by omega) l (by omega) t g (by omega), Option.bind_some]
          unfold rejB
          by_cases k3 : asks t = true
          · have hv := rejB_valid (x := ((q1, q2, s), (c1, c2), e, l)) k1 k2 k3 y
            have hq := okM_echoed hg.2 e [] (by simp only [List.length_nil]; omega) (fun v hv => by cases hv)
            have hc : (codeV y l).size ≤ 1000000000000 := by unfold codeV; split <;> exact getV_size hl.2
            obtain ⟨a1, a2, a3⟩ := answer_right k3
            rw [if_pos k3, if_neg (not_not_intro rfl)]
            dsimp only
            rw [msg_Check q1 q2 s _ _ (by omega) (okM_ins 39 _ hq hc), Option.bind_some]
            dsimp only at hv
            rw [hv, if_pos ⟨rfl, rfl, trivial⟩, mti_Request, Option.bind_some, a3]
            simp
          · rw [if_neg k3, if_pos (fun q => by cases q), mti_Request, Option.bind_some, if_pos k3]
            dsimp only
            have hs := groatref16_Same (ByteArray.mk #[]) (ByteArray.mk #[]) [] [] (by decide)
            rw [show sb [] = ByteArray.mk #[] from rfl, hs]
            simp
        · rw [if_pos (fun q => k2 (Prod.ext q.1 q.2.1))]; simp
      · rw [decide_eq_false k1, if_pos (by simp)]; simp
end Go.Proofs.Ytkhmdcllookjkaa.Xe
