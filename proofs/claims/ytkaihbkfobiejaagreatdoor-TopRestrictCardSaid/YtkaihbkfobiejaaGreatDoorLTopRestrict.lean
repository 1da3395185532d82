/- The law TopRestrict: what is valid under a restricted schema. -/
import Derived.Test.YtkaihbkfobiejaaGreatDoorElv
import Derived.Test.YtkaihbkfobiejaaGreatDoorEr13
import Derived.Test.YtkaihbkfobiejaaGreatDoorErs
import Derived.Test.YtkaihbkfobiejaaGreatDoorXop
namespace Go.Proofs.YtkaihbkfobiejaaGreatDoor.Xe
open Go Go.RowKit Go.Proofs.YtkaihbkfobiejaaGreatDoor.Sp
set_option linter.unusedVariables false
set_option linter.unusedSimpArgs false
set_option maxRecDepth 100000
/-! ### groattop_TopRestrict -/
@[reducible] def groattop_TopRestrict.sg : List Shp := [.a (.pair (.int .i64) (.pair (.int .i64) (.sl (.pair (.int .i64) (.pair (.int .i64) (.pair (.int .i64) (.pair (.int .i64) (.int .i64)))))))), .a (.pair (.str) (.sl (.pair (.int .i64) (.str)))), .a (.pair (.int .u64) (.int .u64))]
@[reducible] def groattop_TopRestrict.rs : Rs := .one (.v (.bool))
@[reducible] noncomputable def groattop_TopRestrict.code : Code := Tryz.f5.body.getD .skip
noncomputable def groattop_TopRestrict.C : Ctx := ⟨tab, [groattop_live.c, groattop_few.c, groatref16_Great.c, wire_Encode.c, groatref13_Right.c, fields_Bits.c, schema_Restrict.c, msg_Set.c, fields_Set_Both.c], [], ⟨[], []⟩⟩
theorem groattop_TopRestrict.eq (n : Nat) (a0 : Int) (a1 : Int) (a2 : List ((Int × (Int × (Int × (Int × Int)))))) (a3 : ByteArray) (a4 : List ((Int × ByteArray))) (a5 : Int) (a6 : Int) : call groattop_TopRestrict.C Tryz.f5 groattop_TopRestrict.code groattop_TopRestrict.sg groattop_TopRestrict.rs n ((a0, (a1, a2)), ((a3, a4), (a5, a6))) =
  ((groattop_live.f ()).bind fun b0 =>
  (if ¬b0 = true then ((groattop_live.f ()).bind fun b1 =>
   (some (decide (b1 = true))))
  else ((groattop_few.f (a0, a1, a2)).bind fun b2 =>
   (if ¬b2 = true then ((groattop_live.f ()).bind fun b3 =>
    (some (decide (b3 = true))))
   else ((groatref16_Great.f (a3, a4)).bind fun b4 =>
    (if b4 = true then ((groattop_live.f ()).bind fun b5 =>
     (some (decide (b5 = true))))
    else ((groatref13_Right.f (a0, a1, a2)).bind fun b6 =>
     (if ¬b6 = true then ((groattop_live.f ()).bind fun b7 =>
      (some (decide (b7 = true))))
     else ((fields_Bits.f (a5, a6)).bind fun b8 =>
      ((schema_Restrict.f ((a0, a1, a2), b8)).bind fun b9 =>
      ((wire_Encode.f ((a0, a1, a2), a3, a4)).bind fun b10 =>
      ((wire_Encode.f (b9, a3, a4)).bind fun b11 =>
      ((msg_Set.f (a3, a4)).bind fun b12 =>
      ((fields_Set_Both.f (b12, b8)).bind fun b13 =>
      ((msg_Set.f (a3, a4)).bind fun b14 =>
      (if Prod.fst (Prod.snd b10) = 0 ∧ Prod.snd (Prod.snd b10) = 0 ∧ True then (if Prod.fst b13 = Prod.fst b14 ∧ Prod.snd b13 = Prod.snd b14 ∧ True then (if Prod.fst (Prod.snd b11) = 0 ∧ Prod.snd (Prod.snd b11) = 0 ∧ True then (some (decide (Prod.fst b10 = Prod.fst b11)))
        else (some false))
       else (if ¬(Prod.fst (Prod.snd b11) = 0 ∧ Prod.snd (Prod.snd b11) = 0 ∧ True) then (some (decide (Prod.fst b11 = ByteArray.mk #[])))
        else (some false)))
      else (if ¬(Prod.fst (Prod.snd b11) = 0 ∧ Prod.snd (Prod.snd b11) = 0 ∧ True) then (some (decide (Prod.fst b11 = ByteArray.mk #[])))
       else (some false)))))))))))))))))) := by kernel_rfl
theorem groattop_TopRestrict.ok : CtxOk Tryz.prog groattop_TopRestrict.C := ⟨AllOk.all (show AllOk groattop_TopRestrict.C.G from ⟨groattop_live.con, groattop_few.con, groatref16_Great.con, wire_Encode.con, groatref13_Right.con, fields_Bits.con, schema_Restrict.con, msg_Set.con, fields_Set_Both.con, trivial⟩), fun c hc => absurd (show c ∈ ([] : List ConS) from hc) (by simp)⟩
theorem wfu64 {n : Int} (h : (Lit.int .u64 n).wf = true) : 0 ≤ n ∧ n < 18446744073709551616 := by
  have e1 : IntKind.u64.min = 0 := rfl
  have e2 : IntKind.u64.max = 18446744073709551615 := rfl
  simp [Lit.wf] at h; omega
theorem groattop_TopRestrict.holds (x : (Int × Int × List S5) × (ByteArray × List V) × Int × Int) (w : Wf (sgTy groattop_TopRestrict.sg) x) : ∃ n, call groattop_TopRestrict.C Tryz.f5 groattop_TopRestrict.code groattop_TopRestrict.sg groattop_TopRestrict.rs n x = some true := by
  obtain ⟨⟨a, b, s⟩, ⟨t, l⟩, h, g⟩ := x
  obtain ⟨-, -, v1, v2⟩ := w
  have w1 := wfu64 v1
  have w2 := wfu64 v2
  clear v1 v2
  dsimp only at w1 w2
  obtain ⟨h, rfl⟩ := Int.eq_ofNat_of_zero_le w1.1
  obtain ⟨g, rfl⟩ := Int.eq_ofNat_of_zero_le w2.1
  have hh : h < 18446744073709551616 := by omega
  have hg : g < 18446744073709551616 := by omega
  obtain ⟨t, rfl⟩ := ex_sb t
  refine ⟨0, ?_⟩
  rw [groattop_TopRestrict.eq]
  have dead : ((groattop_live.f ()).bind fun b3 => some (decide (b3 = true))) = some true := rfl
  simp only [dead]
  rw [show groattop_live.f () = some true from rfl, Option.bind_some, if_neg (by simp), show groattop_few.f (a, b, s) = some (decide ((s.length : Int) ≤ 200)) from rfl, Option.bind_some]
  by_cases c : ¬ (s.length : Int) ≤ 200
  · rw [if_pos (by simpa using c)]
  rw [if_neg (by simpa using c), groatref16_Great, Option.bind_some]
  cases g1 : great (sb t) l with
  | true => rw [if_pos rfl]
  | false =>
    obtain ⟨g2, g3, g4⟩ := great_no g1
    have ho : okM l := ⟨by omega, fun v hv => by have := g4 v hv; omega⟩
    have hs : s.length ≤ 1000000 := by omega
    have hrs : (restS h g s).length ≤ 1000000 := Nat.le_trans (List.length_filter_le _ _) hs
    rw [if_neg (by simp), groatref13_Right a b s hs, Option.bind_some]
    by_cases c1 : (schemaE (a, b, s)).1 = 0
    · have hset := setV_lt l
      rw [if_neg (by simpa using c1), fields_Bits, Option.bind_some, schema_Restrict a b s hs h g hh hg, Option.bind_some, wire_Encode a b s hs t l ho, Option.bind_some, wire_Encode a b _ hrs t l ho, Option.bind_some, msg_Set (sb t) l (by omega), Option.bind_some]
      rw [show fields_Set_Both.f ((((withAll (l.map Prod.fst) (0, 0)).1 : Int), ((withAll (l.map Prod.fst) (0, 0)).2 : Int)), ((h : Int), (g : Int))) = _ from fields_Set_Both (setV l).1 (setV l).2 h g hset.1 hset.2 hh hg, Option.bind_some, Option.bind_some]
      dsimp only
      have ei : ((((setV l).1 &&& h : Nat) : Int) = (((withAll (l.map Prod.fst) (0, 0)).1 : Nat) : Int) ∧ (((setV l).2 &&& g : Nat) : Int) = (((withAll (l.map Prod.fst) (0, 0)).2 : Nat) : Int) ∧ True) ↔ ((setV l).1 &&& h = (setV l).1 ∧ (setV l).2 &&& g = (setV l).2) := by
        rw [and_true]
        exact and_congr Int.ofNat_inj Int.ofNat_inj
      have hr := msgE_rest c1 hh hg t l
      have hno : ¬ msgE (a, b, restS h g s) t l = (0, 0) → (if ¬ ((wireE (a, b, restS h g s) t l).2.1 = 0 ∧ (wireE (a, b, restS h g s) t l).2.2 = 0 ∧ True) then some (decide (sb (wireE (a, b, restS h g s) t l).1 = ByteArray.mk #[])) else some false) = some true := fun hn => by
        obtain ⟨n1, n2⟩ := wireE_no hn
        rw [n1, if_pos (fun q => n2 q.1)]
        rfl
      by_cases c2 : msgE (a, b, s) t l = (0, 0)
      · rw [wireE_zero c2, if_pos (⟨rfl, rfl, trivial⟩ : (0 : Int) = 0 ∧ (0 : Int) = 0 ∧ True)]
        by_cases c3 : (setV l).1 &&& h = (setV l).1 ∧ (setV l).2 &&& g = (setV l).2
        · rw [if_pos (ei.2 c3), wireE_zero (hr.2 ⟨c2, c3⟩), if_pos (⟨rfl, rfl, trivial⟩ : (0 : Int) = 0 ∧ (0 : Int) = 0 ∧ True)]
          dsimp only
          rw [wireB_rest hh hg c2 c3]; simp
        · rw [if_neg (fun q => c3 (ei.1 q))]
          exact hno fun q => c3 (hr.1 q).2
      · obtain ⟨n1, n2⟩ := wireE_no c2
        rw [n1, if_neg (fun q => n2 q.1)]
        exact hno fun q => c2 (hr.1 q).1
    · rw [if_pos (by simpa using c1)]
end Go.Proofs.YtkaihbkfobiejaaGreatDoor.Xe
