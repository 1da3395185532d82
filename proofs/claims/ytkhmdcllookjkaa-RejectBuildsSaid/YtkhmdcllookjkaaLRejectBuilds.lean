/- The law on what a refusal answers. -/
import Derived.Test.YtkhmdcllookjkaaA23
import Derived.Test.YtkhmdcllookjkaaEr23b
import Derived.Test.YtkhmdcllookjkaaXop
namespace Go.Proofs.Ytkhmdcllookjkaa.Xe
open Go Go.RowKit Go.Proofs.Ytkhmdcllookjkaa.Sp
set_option linter.unusedVariables false
set_option linter.unusedSimpArgs false
set_option maxRecDepth 100000
/-! ### groatlaw23_RejectBuilds -/
@[reducible] def groatlaw23_RejectBuilds.sg : List Shp := [.a (.pair (.pair (.int .i64) (.pair (.int .i64) (.sl (.pair (.int .i64) (.pair (.int .i64) (.pair (.int .i64) (.pair (.int .i64) (.int .i64)))))))) (.pair (.pair (.sl (.pair (.str) (.str))) (.sl (.pair (.int .i64) (.pair (.int .i64) (.pair (.int .i64) (.pair (.str) (.sl (.pair (.str) (.str))))))))) (.pair (.sl (.int .i64)) (.sl (.pair (.int .i64) (.str)))))), .a (.pair (.str) (.sl (.pair (.int .i64) (.str)))), .a (.pair (.int .i64) (.int .i64))]
@[reducible] def groatlaw23_RejectBuilds.rs : Rs := .one (.v (.bool))
@[reducible] noncomputable def groatlaw23_RejectBuilds.code : Code := Try.f10.body.getD .skip
noncomputable def groatlaw23_RejectBuilds.C : Ctx := ⟨tab, [groatref16_Great.c, groatref16_Copy.c, groatref16_Same.c, groatlaw23_awake.c, groatref23_Great.c, groatref23_Copy.c, reject_Build.c, groatref23_Build.c], [], ⟨[], []⟩⟩
theorem groatlaw23_RejectBuilds.eq (n : Nat) (a0 : Int) (a1 : Int) (a2 : List ((Int × (Int × (Int × (Int × Int)))))) (a3 : List ((ByteArray × ByteArray))) (a4 : List ((Int × (Int × (Int × (ByteArray × List ((ByteArray × ByteArray)))))))) (a5 : List Int) (a6 : List ((Int × ByteArray))) (a7 : ByteArray) (a8 : List ((Int × ByteArray))) (a9 : Int) (a10 : Int) : call groatlaw23_RejectBuilds.C Try.f10 groatlaw23_RejectBuilds.code groatlaw23_RejectBuilds.sg groatlaw23_RejectBuilds.rs n (((a0, (a1, a2)), ((a3, a4), (a5, a6))), ((a7, a8), (a9, a10))) =
  ((groatlaw23_awake.f ()).bind fun b0 =>
  (if ¬b0 = true then ((groatlaw23_awake.f ()).bind fun b1 =>
   (some (decide (b1 = true))))
  else ((groatref23_Great.f ((a0, a1, a2), (a3, a4), a5, a6)).bind fun b2 =>
   (if b2 = true then ((groatlaw23_awake.f ()).bind fun b3 =>
    (some (decide (b3 = true))))
   else ((groatref16_Great.f (a7, a8)).bind fun b4 =>
    (if b4 = true then ((groatlaw23_awake.f ()).bind fun b5 =>
     (some (decide (b5 = true))))
    else ((groatref23_Copy.f ((a0, a1, a2), (a3, a4), a5, a6)).bind fun b6 =>
     ((groatref16_Copy.f (a7, a8)).bind fun b7 =>
     ((reject_Build.f (b6, b7, a9, a10)).bind fun b8 =>
     ((groatref23_Build.f (((a0, a1, a2), (a3, a4), a5, a6), (a7, a8), a9, a10)).bind fun b9 =>
     (if decide (Prod.snd b8 = true) = decide (Prod.snd b9 = true) then ((groatref16_Same.f (Prod.fst b8, Prod.fst b9)).bind fun b10 =>
      (some (decide (b10 = true))))
     else (some false)))))))))))) := by kernel_rfl
theorem groatlaw23_RejectBuilds.ok : CtxOk Try.prog groatlaw23_RejectBuilds.C := ⟨AllOk.all (show AllOk groatlaw23_RejectBuilds.C.G from ⟨groatref16_Great.con, groatref16_Copy.con, groatref16_Same.con, groatlaw23_awake.con, groatref23_Great.con, groatref23_Copy.con, reject_Build.con, groatref23_Build.con, trivial⟩), fun c hc => absurd (show c ∈ ([] : List ConS) from hc) (by simp)⟩
theorem groatlaw23_RejectBuilds.holds (x : RJ × (ByteArray × List V) × Int × Int) (w : Wf (sgTy groatlaw23_RejectBuilds.sg) x) : ∃ n, call groatlaw23_RejectBuilds.C Try.f10 groatlaw23_RejectBuilds.code groatlaw23_RejectBuilds.sg groatlaw23_RejectBuilds.rs n x = some true := by
  obtain ⟨⟨⟨q1, q2, s⟩, ⟨c1, c2⟩, e, l⟩, ⟨t, g⟩, y, z⟩ := x
  obtain ⟨t, rfl⟩ := ex_sb t
  refine ⟨0, ?_⟩
  rw [groatlaw23_RejectBuilds.eq]
  simp only [groatlaw23_awake.f, Option.bind_some, not_true_eq_false, if_false, groatref23_Great, groatref16_Great]
  cases g1 : greatR ((q1, q2, s), (c1, c2), e, l) with
  | true => simp
  | false =>
    cases g2 : great (sb t) g with
    | true => simp
    | false =>
      obtain ⟨h1, h2, h3, h4⟩ := greatR_no g1
      obtain ⟨i1, i2, i3⟩ := great_no g2
      rw [size_sb] at i1
      dsimp only at h1 h2 h3
      rw [if_neg (by simp), if_neg (by simp), groatref23_Copy _ (by dsimp only; omega) (by dsimp only; omega) (by dsimp only; omega), Option.bind_some, groatref16_Copy _ g (by omega), Option.bind_some,
        reject_Build _ _ e (by omega) l (by omega) t g (by omega), Option.bind_some, groatref23_Build _ _ e (by omega) l (by omega) t (by omega) g (by omega), Option.bind_some, if_pos rfl]
      have hlen : (rejB ((q1, q2, s), (c1, c2), e, l) t g y).1.2.length ≤ 1000000 := rejB_length _ _ _ _ (by dsimp only; omega)
      rw [groatref16_Same _ _ _ _ hlen]
      simp
end Go.Proofs.Ytkhmdcllookjkaa.Xe
