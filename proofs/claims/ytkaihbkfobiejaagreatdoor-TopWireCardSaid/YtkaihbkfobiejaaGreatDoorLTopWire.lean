/- The law TopWire: what is valid is encoded, and decoded again; what is decoded is the bytes of what is valid. -/
import Derived.Test.YtkaihbkfobiejaaGreatDoorElv
import Derived.Test.YtkaihbkfobiejaaGreatDoorEr16
import Derived.Test.YtkaihbkfobiejaaGreatDoorNTop
import Derived.Test.YtkaihbkfobiejaaGreatDoorLdM
import Derived.Test.YtkaihbkfobiejaaGreatDoorXop
namespace Go.Proofs.YtkaihbkfobiejaaGreatDoor.Xe
open Go Go.RowKit Go.Proofs.YtkaihbkfobiejaaGreatDoor.Sp
set_option linter.unusedVariables false
set_option linter.unusedSimpArgs false
set_option maxRecDepth 100000
/-! ### groattop_TopWire -/
@[reducible] def groattop_TopWire.sg : List Shp := [.a (.pair (.int .i64) (.pair (.int .i64) (.sl (.pair (.int .i64) (.pair (.int .i64) (.pair (.int .i64) (.pair (.int .i64) (.int .i64)))))))), .a (.pair (.str) (.sl (.pair (.int .i64) (.str)))), .v (.str)]
@[reducible] def groattop_TopWire.rs : Rs := .one (.v (.bool))
@[reducible] noncomputable def groattop_TopWire.code : Code := Tryz.f3.body.getD .skip
noncomputable def groattop_TopWire.C : Ctx := ⟨tab, [groattop_live.c, groattop_few.c, groatref16_Great.c, wire_Encode.c, msg_Check.c, strict_Decode.c, groatref16_Same.c], [], ⟨[], []⟩⟩
theorem groattop_TopWire.eq (n : Nat) (a0 : Int) (a1 : Int) (a2 : List ((Int × (Int × (Int × (Int × Int)))))) (a3 : ByteArray) (a4 : List ((Int × ByteArray))) (a5 : ByteArray) : call groattop_TopWire.C Tryz.f3 groattop_TopWire.code groattop_TopWire.sg groattop_TopWire.rs n ((a0, (a1, a2)), ((a3, a4), a5)) =
  ((groattop_live.f ()).bind fun b0 =>
  (if ¬b0 = true then ((groattop_live.f ()).bind fun b1 =>
   (some (decide (b1 = true))))
  else ((groattop_few.f (a0, a1, a2)).bind fun b2 =>
   (if ¬b2 = true then ((groattop_live.f ()).bind fun b3 =>
    (some (decide (b3 = true))))
   else ((groatref16_Great.f (a3, a4)).bind fun b4 =>
    (if b4 = true then ((groattop_live.f ()).bind fun b5 =>
     (some (decide (b5 = true))))
    else (if (↑(ByteArray.size a5) : Int) > 3000 then ((groattop_live.f ()).bind fun b6 =>
      (some (decide (b6 = true))))
     else ((wire_Encode.f ((a0, a1, a2), a3, a4)).bind fun b7 =>
      ((msg_Check.f ((a0, a1, a2), a3, a4)).bind fun b8 =>
      (if ¬(Prod.fst (Prod.snd b7) = Prod.fst b8 ∧ Prod.snd (Prod.snd b7) = Prod.snd b8 ∧ True) then (some false)
      else (if ¬decide (Prod.fst (Prod.snd b7) = 0 ∧ Prod.snd (Prod.snd b7) = 0 ∧ True) = decide ¬Prod.fst b7 = ByteArray.mk #[] then (some false)
       else (if ¬Prod.fst b7 = ByteArray.mk #[] then ((strict_Decode.f ((a0, a1, a2), Prod.fst b7)).bind fun b9 =>
         (if ¬(Prod.fst (Prod.snd b9) = 0 ∧ Prod.snd (Prod.snd b9) = 0 ∧ True) then (some false)
         else ((groatref16_Same.f (Prod.fst b9, a3, a4)).bind fun b10 =>
          (if ¬b10 = true then (some false)
          else ((strict_Decode.f ((a0, a1, a2), a5)).bind fun b11 =>
           (if ¬(Prod.fst (Prod.snd b11) = 0 ∧ Prod.snd (Prod.snd b11) = 0 ∧ True) then (some true)
           else ((wire_Encode.f ((a0, a1, a2), Prod.fst b11)).bind fun b12 =>
            ((msg_Check.f ((a0, a1, a2), Prod.fst b11)).bind fun b13 =>
            (if Prod.fst b13 = 0 ∧ Prod.snd b13 = 0 ∧ True then (if Prod.fst (Prod.snd b12) = 0 ∧ Prod.snd (Prod.snd b12) = 0 ∧ True then (some (decide (Prod.fst b12 = a5)))
             else (some false))
            else (some false))))))))))
        else ((strict_Decode.f ((a0, a1, a2), a5)).bind fun b14 =>
         (if ¬(Prod.fst (Prod.snd b14) = 0 ∧ Prod.snd (Prod.snd b14) = 0 ∧ True) then (some true)
         else ((wire_Encode.f ((a0, a1, a2), Prod.fst b14)).bind fun b15 =>
          ((msg_Check.f ((a0, a1, a2), Prod.fst b14)).bind fun b16 =>
          (if Prod.fst b16 = 0 ∧ Prod.snd b16 = 0 ∧ True then (if Prod.fst (Prod.snd b15) = 0 ∧ Prod.snd (Prod.snd b15) = 0 ∧ True then (some (decide (Prod.fst b15 = a5)))
           else (some false))
          else (some false)))))))))))))))))) := by kernel_rfl
theorem groattop_TopWire.ok : CtxOk Tryz.prog groattop_TopWire.C := ⟨AllOk.all (show AllOk groattop_TopWire.C.G from ⟨groattop_live.con, groattop_few.con, groatref16_Great.con, wire_Encode.con, msg_Check.con, strict_Decode.con, groatref16_Same.con, trivial⟩), fun c hc => absurd (show c ∈ ([] : List ConS) from hc) (by simp)⟩
theorem groattop_TopWire.holds (x : (Int × Int × List S5) × (ByteArray × List V) × ByteArray) (w : Wf (sgTy groattop_TopWire.sg) x) : ∃ n, call groattop_TopWire.C Tryz.f3 groattop_TopWire.code groattop_TopWire.sg groattop_TopWire.rs n x = some true := by
  obtain ⟨⟨a, b, s⟩, ⟨t, l⟩, z⟩ := x
  obtain ⟨t, rfl⟩ := ex_sb t
  obtain ⟨z, rfl⟩ := ex_sb z
  refine ⟨0, ?_⟩
  rw [groattop_TopWire.eq]
  have dead : ((groattop_live.f ()).bind fun b3 => some (decide (b3 = true))) = some true := rfl
  simp only [dead]
  rw [show groattop_live.f () = some true from rfl, Option.bind_some, if_neg (by simp), show groattop_few.f (a, b, s) = some (decide ((s.length : Int) ≤ 200)) from rfl, Option.bind_some]
  by_cases c : (s.length : Int) ≤ 200
  · rw [if_neg (by simpa using c), groatref16_Great, Option.bind_some]
    cases g1 : great (sb t) l with
    | true => rw [if_pos rfl]
    | false =>
      obtain ⟨g2, g3, g4⟩ := great_no g1
      have ho : okM l := ⟨by omega, fun v hv => by have := g4 v hv; omega⟩
      have hs : s.length ≤ 1000000 := by omega
      rw [if_neg (by simp), size_sb]
      by_cases c2 : (z.length : Int) > 3000
      · rw [if_pos c2]
      have hl := decM_okM (a, b, s) z (by omega)
      have last : ((strict_Decode.f ((a, b, s), sb z)).bind fun b14 =>
         (if ¬(Prod.fst (Prod.snd b14) = 0 ∧ Prod.snd (Prod.snd b14) = 0 ∧ True) then (some true)
         else ((wire_Encode.f ((a, b, s), Prod.fst b14)).bind fun b15 =>
          ((msg_Check.f ((a, b, s), Prod.fst b14)).bind fun b16 =>
          (if Prod.fst b16 = 0 ∧ Prod.snd b16 = 0 ∧ True then (if Prod.fst (Prod.snd b15) = 0 ∧ Prod.snd (Prod.snd b15) = 0 ∧ True then (some (decide (Prod.fst b15 = sb z)))
           else (some false))
          else (some false)))))) = some true := by
        rw [strict_Decode a b s hs z (by omega), Option.bind_some]
        dsimp only
        by_cases h : (decM (a, b, s) z).2.1 = 0
        · obtain ⟨h1, h2, h3⟩ := decM_ok h
          rw [if_neg (not_not_intro ⟨h, h3, trivial⟩), wire_Encode a b s hs _ _ hl, Option.bind_some, wireE_zero h1, msg_Check a b s _ _ hs hl, Option.bind_some, h1, if_pos ⟨rfl, rfl, trivial⟩, if_pos ⟨rfl, rfl, trivial⟩]
          dsimp only at h2 ⊢
          rw [h2]; simp
        · rw [if_pos (fun q => h q.1)]
      rw [if_neg c2, wire_Encode a b s hs t l ho, Option.bind_some, msg_Check a b s t l hs ho, Option.bind_some]
      by_cases hv : msgE (a, b, s) t l = (0, 0)
      · have hw : (wireB a s t l).length ≤ 1000000 := wireB_length a s t l (by omega)
        have hne : sb (wireB a s t l) ≠ ByteArray.mk #[] := fun e => wireB_ne hv (sb_inj (b := []) e)
        have hd := decM_put hv []
        rw [List.append_nil] at hd
        rw [wireE_zero hv, hv]
        dsimp only at hd ⊢
        rw [if_neg (fun q => q ⟨rfl, rfl, trivial⟩), if_neg (by rw [decide_eq_true (⟨rfl, rfl, trivial⟩ : (0 : Int) = 0 ∧ (0 : Int) = 0 ∧ True), decide_eq_true hne]; simp), if_pos hne, strict_Decode a b s hs _ (by omega), Option.bind_some, hd, if_pos rfl]
        dsimp only
        rw [if_neg (fun q => q ⟨rfl, rfl, trivial⟩), groatref16_Same _ _ _ _ (by omega), Option.bind_some, if_neg (by simp)]
        exact last
      · obtain ⟨n1, n2⟩ := wireE_no hv
        rw [n1]
        dsimp only
        have e0 : sb [] = ByteArray.mk #[] := rfl
        rw [if_neg (fun q => q ⟨rfl, rfl, trivial⟩), if_neg (by rw [decide_eq_false (fun q => n2 q.1), e0]; simp), e0, if_neg (fun q => q rfl)]
        exact last
  · rw [if_pos (by simpa using c)]
end Go.Proofs.YtkaihbkfobiejaaGreatDoor.Xe
