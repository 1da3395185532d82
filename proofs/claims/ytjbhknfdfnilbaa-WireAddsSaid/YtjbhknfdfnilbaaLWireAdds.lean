/- The law WireAdds. -/
import Derived.Test.YtjbhknfdfnilbaaA17
import Derived.Test.YtjbhknfdfnilbaaEr16
import Derived.Test.YtjbhknfdfnilbaaEnx
import Derived.Test.YtjbhknfdfnilbaaNWireL
import Derived.Test.YtjbhknfdfnilbaaXop
namespace Go.Proofs.Ytjbhknfdfnilbaa.Xe
open Go Go.RowKit Go.Proofs.Ytjbhknfdfnilbaa.Sp
set_option linter.unusedVariables false
set_option linter.unusedSimpArgs false
set_option maxRecDepth 100000
/-! ### groatlaw17_WireAdds -/
@[reducible] def groatlaw17_WireAdds.sg : List Shp := [.a (.pair (.int .i64) (.pair (.int .i64) (.sl (.pair (.int .i64) (.pair (.int .i64) (.pair (.int .i64) (.pair (.int .i64) (.int .i64)))))))), .a (.pair (.str) (.sl (.pair (.int .i64) (.str)))), .a (.pair (.int .i64) (.str))]
@[reducible] def groatlaw17_WireAdds.rs : Rs := .one (.v (.bool))
@[reducible] noncomputable def groatlaw17_WireAdds.code : Code := Try.f6.body.getD .skip
noncomputable def groatlaw17_WireAdds.C : Ctx := ⟨tab, [groatlaw17_awake.c, groatref16_Great.c, wire_Encode.c, msg_Without.c, msg_With.c, schema_Find.c, cell_Put.c, msg_Set.c, fields_Set_Next.c], [], ⟨[], [(1, [(33, .bool)]), (5, [(62, .bool)]), (10, [(90, .bool)]), (14, [(6, .bool)])]⟩⟩
theorem groatlaw17_WireAdds.eq (n : Nat) (a0 : Int) (a1 : Int) (a2 : List ((Int × (Int × (Int × (Int × Int)))))) (a3 : ByteArray) (a4 : List ((Int × ByteArray))) (a5 : Int) (a6 : ByteArray) : call groatlaw17_WireAdds.C Try.f6 groatlaw17_WireAdds.code groatlaw17_WireAdds.sg groatlaw17_WireAdds.rs n ((a0, (a1, a2)), ((a3, a4), (a5, a6))) =
  (((((groatlaw17_awake.f ()).bind fun b0 =>
   (if ¬b0 = true then (some true)
   else (if (↑(List.length a2) : Int) > 200 then (some true)
    else ((groatref16_Great.f (a3, a4)).bind fun b1 =>
     (if b1 = true then (some true)
     else (some (decide ((↑(ByteArray.size a6) : Int) > 1000)))))))) : Option Bool)).bind fun b2 =>
  (if b2 = true then ((groatlaw17_awake.f ()).bind fun b3 =>
   (some (decide (b3 = true))))
  else ((msg_Without.f ((a3, a4), a5)).bind fun b4 =>
   ((wire_Encode.f ((a0, a1, a2), b4)).bind fun b5 =>
   ((msg_With.f ((a3, a4), a5, a6)).bind fun b6 =>
   ((wire_Encode.f ((a0, a1, a2), b6)).bind fun b7 =>
   ((((if ¬(Prod.fst (Prod.snd b5) = 0 ∧ Prod.snd (Prod.snd b5) = 0 ∧ True) then (some true)
    else (some (decide ¬(Prod.fst (Prod.snd b7) = 0 ∧ Prod.snd (Prod.snd b7) = 0 ∧ True)))) : Option Bool)).bind fun b8 =>
   (if b8 = true then (some true)
   else ((schema_Find.f ((a0, a1, a2), a5)).bind fun b9 =>
    ((cell_Put.f (a0, Prod.fst b9, a6)).bind fun b10 =>
    ((((if a5 > 64 then ((msg_Without.f ((a3, a4), a5)).bind fun b11 =>
      ((msg_Set.f b11).bind fun b12 =>
      ((fields_Set_Next.f (b12, 64)).bind fun b13 =>
      (some (decide (b13 = 0))))))
     else (some false)) : Option Bool)).bind fun b14 =>
    (if b14 = true then (if a0 = 1 then ((((if Prod.snd b10 = 0 then (some (decide ((↑(ByteArray.size (Prod.fst b7)) : Int) = IntKind.wrap IntKind.i64 (IntKind.wrap IntKind.i64 ((↑(ByteArray.size (Prod.fst b5)) : Int) + (↑(ByteArray.size (Prod.fst b10)) : Int)) + 16))))
       else (some false)) : Option Bool)).bind fun b15 =>
      (some (decide (b15 = true))))
     else ((((if Prod.snd b10 = 0 then (some (decide ((↑(ByteArray.size (Prod.fst b7)) : Int) = IntKind.wrap IntKind.i64 (IntKind.wrap IntKind.i64 ((↑(ByteArray.size (Prod.fst b5)) : Int) + (↑(ByteArray.size (Prod.fst b10)) : Int)) + 8))))
       else (some false)) : Option Bool)).bind fun b16 =>
      (some (decide (b16 = true)))))
    else ((((if Prod.snd b10 = 0 then (some (decide ((↑(ByteArray.size (Prod.fst b7)) : Int) = IntKind.wrap IntKind.i64 (IntKind.wrap IntKind.i64 ((↑(ByteArray.size (Prod.fst b5)) : Int) + (↑(ByteArray.size (Prod.fst b10)) : Int)) + 0))))
      else (some false)) : Option Bool)).bind fun b17 =>
     (some (decide (b17 = true)))))))))))))))) := by kernel_rfl
theorem groatlaw17_WireAdds.ok : CtxOk Try.prog groatlaw17_WireAdds.C := ⟨AllOk.all (show AllOk groatlaw17_WireAdds.C.G from ⟨groatlaw17_awake.con, groatref16_Great.con, wire_Encode.con, msg_Without.con, msg_With.con, schema_Find.con, cell_Put.con, msg_Set.con, fields_Set_Next.con, trivial⟩), fun c hc => absurd (show c ∈ ([] : List ConS) from hc) (by simp)⟩
theorem groatlaw17_WireAdds.holds (x : (Int × Int × List S5) × (ByteArray × List V) × Int × ByteArray) (w : Wf (sgTy groatlaw17_WireAdds.sg) x) : ∃ n, call groatlaw17_WireAdds.C Try.f6 groatlaw17_WireAdds.code groatlaw17_WireAdds.sg groatlaw17_WireAdds.rs n x = some true := by
  obtain ⟨⟨a, b, s⟩, ⟨t, l⟩, n, z⟩ := x
  obtain ⟨t, rfl⟩ := ex_sb t
  refine ⟨0, ?_⟩
  rw [groatlaw17_WireAdds.eq]
  simp only [groatlaw17_awake.f, Option.bind_some, not_true_eq_false, if_false, groatref16_Great]
  by_cases c : (s.length : Int) > 200
  · rw [if_pos c]; simp
  rw [if_neg c]
  cases g1 : great (sb t) l with
  | true => simp
  | false =>
    rw [if_neg (by simp), Option.bind_some]
    by_cases c2 : (z.size : Int) > 1000
    · rw [decide_eq_true c2]; simp
    rw [decide_eq_false c2, if_neg (by simp)]
    obtain ⟨-, g3, g4⟩ := great_no g1
    have hs : s.length ≤ 1000000 := by omega
    have hw := without_length n l
    have ho1 : okM (without n l) := ⟨by omega, fun v hv => by have := g4 v (List.mem_filter.1 hv).1; omega⟩
    have ho2 : okM (withV n z l) := by
      refine ⟨?_, fun v hv => ?_⟩
      · have := (withV_fst n z l).length_eq
        have h2 := List.length_filter_le (fun x => decide (x ≠ n)) (l.map Prod.fst)
        rw [List.length_cons, List.length_map] at this
        rw [List.length_map] at h2
        omega
      · rcases List.mem_cons.1 ((insV_perm n z (without n l)).mem_iff.1 hv) with rfl | hv
        · show z.size ≤ _; omega
        · exact ho1.2 v hv
    rw [msg_Without (sb t) l (by omega), Option.bind_some, wire_Encode a b s hs t _ ho1, Option.bind_some, msg_With (sb t) l (by omega), Option.bind_some, wire_Encode a b s hs t _ ho2, Option.bind_some]
    by_cases hv : msgE (a, b, s) t (without n l) = (0, 0)
    · by_cases hu : msgE (a, b, s) t (withV n z l) = (0, 0)
      · obtain ⟨⟨k1, k2, k3⟩, k4⟩ := (msgE_zero _ _ _).1.1 hv
        obtain ⟨-, k5⟩ := (msgE_zero _ _ _).1.1 hu
        have hst := schema_style k1
        have hr := ((Rise.ins (without_ne n l) k4).1 k5).2
        have hadd := wire_adds (t := t) hst k4 k5
        dsimp only at hadd hst k4 k5
        obtain ⟨x, hx⟩ := ex_sb z
        have hxl : x.length ≤ 1000 := by rw [hx, size_sb] at c2; omega
        have hc : cell_Put.f (a, (findS n s).1, z) = some (sb (cellB a s (n, z)), 0) := by
          have := cell_Put a (findS n s).1.1 (findS n s).1.2.1 (findS n s).1.2.2.1 (findS n s).1.2.2.2.1 (findS n s).1.2.2.2.2 x (by omega)
          rw [hx]
          refine Eq.trans this ?_
          have e2 : (cellPut a (findS n s).1.1 (findS n s).1.2.1 (findS n s).1.2.2.1 (findS n s).1.2.2.2.1 (findS n s).1.2.2.2.2 x).2 = 0 := by
            have h2 := hr.2
            dsimp only at h2
            rw [hx, bl_sb] at h2
            unfold cellPut
            rw [if_neg (not_not_intro hst), if_neg (not_not_intro h2)]
          rw [e2]; rfl
        have hl1 := wireB_length a s t (without n l) (by omega)
        have hcl : (cellB a s (n, z)).length ≤ 3000 := cellPut_length ..
        rw [wireE_zero hv, wireE_zero hu, if_neg (fun q => q ⟨rfl, rfl, trivial⟩), Option.bind_some, if_neg (by simp), schema_Find a b s hs, Option.bind_some]
        dsimp only
        rw [hc, Option.bind_some]
        have hmore : (if n > 64 then (some (sb t, without n l)).bind fun b11 => (msg_Set.f b11).bind fun b12 => (fields_Set_Next.f (b12, 64)).bind fun b13 => some (decide (b13 = 0)) else some false) = some (decide (n > 64 ∧ (setV (without n l)).2 = 0)) := by
          by_cases c3 : n > 64
          · have hset : msg_Set.f (sb t, without n l) = some (((setV (without n l)).1 : Int), ((setV (without n l)).2 : Int)) := msg_Set (sb t) (without n l) (by omega)
            rw [if_pos c3, Option.bind_some, hset, Option.bind_some]
            have hn := fields_Set_Next (setV (without n l)).1 (setV (without n l)).2 64 (by omega)
            rw [show ((64 : Nat) : Int) = 64 from rfl] at hn
            rw [hn, Option.bind_some]
            congr 1
            exact decide_eq_decide.2 ((next64 _ _ (setV_lt _).2).trans ⟨fun h => ⟨c3, h⟩, fun h => h.2⟩)
          · rw [if_neg c3, decide_eq_false (fun q => c3 q.1)]
        rw [hmore, Option.bind_some, size_sb, size_sb, size_sb, wrap_id (x := ((wireB a s t (without n l)).length : Int) + _) (by omega) (by omega)]
        by_cases c4 : n > 64 ∧ (setV (without n l)).2 = 0
        · rw [if_pos c4] at hadd
          rw [decide_eq_true c4, if_pos rfl]
          by_cases c5 : a = 1
          · rw [if_pos c5] at hadd
            rw [if_pos c5, if_pos rfl, wrap_id (by omega) (by omega), decide_eq_true (by omega)]; rfl
          · rw [if_neg c5] at hadd
            rw [if_neg c5, if_pos rfl, wrap_id (by omega) (by omega), decide_eq_true (by omega)]; rfl
        · rw [if_neg c4] at hadd
          rw [decide_eq_false c4, if_neg (by simp), if_pos rfl, wrap_id (by omega) (by omega), decide_eq_true (by omega)]; rfl
      · obtain ⟨n1, n2⟩ := wireE_no hu
        rw [wireE_zero hv, if_neg (fun q => q ⟨rfl, rfl, trivial⟩), n1]; simp [n2]
    · obtain ⟨n1, n2⟩ := wireE_no hv
      rw [n1, if_pos (fun q => n2 q.1)]; simp
end Go.Proofs.Ytjbhknfdfnilbaa.Xe
