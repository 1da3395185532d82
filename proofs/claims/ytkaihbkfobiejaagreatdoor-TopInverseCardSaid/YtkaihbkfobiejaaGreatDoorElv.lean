/- What the document fixes, the program answers. -/
import Derived.Test.YtkaihbkfobiejaaGreatDoorEro
namespace Go.Proofs.YtkaihbkfobiejaaGreatDoor.Xe
open Go Go.RowKit Go.Proofs.YtkaihbkfobiejaaGreatDoor.Sp
set_option linter.unusedVariables false
set_option linter.unusedSimpArgs false
set_option maxRecDepth 100000
theorem live10 : route_Outcome.f (builtV, 0, liveB) = some (1, liveC) := by
  refine (route_Outcome.eq 0 1 0 schema0 types0 rules0 echoV codes0 2 1 schema1 types1 rules1 echoV codes1 4096 0 liveB).trans ?_
  rw [show route_Check.f ((((1, 0, schema0), (types0, rules0), echoV, codes0), (2, 1, schema1), (types1, rules1), echoV, codes1), 4096) = _ from live9, Option.bind_some, if_neg (by decide), if_neg (by decide), if_neg (by decide), if_pos rfl, if_neg (by decide), if_pos (by decide), live3, Option.bind_some, if_neg (by decide), live4, Option.bind_some, if_neg (by decide), live5, Option.bind_some, if_neg (by decide)]
theorem live11 : route_Outcome.f (builtV, 0, liveE) = some (2, liveD) := by
  refine (route_Outcome.eq 0 1 0 schema0 types0 rules0 echoV codes0 2 1 schema1 types1 rules1 echoV codes1 4096 0 liveE).trans ?_
  rw [show route_Check.f ((((1, 0, schema0), (types0, rules0), echoV, codes0), (2, 1, schema1), (types1, rules1), echoV, codes1), 4096) = _ from live9, Option.bind_some, if_neg (by decide), if_neg (by decide), if_neg (by decide), if_pos rfl, if_neg (by decide), if_pos (by decide), live6, Option.bind_some, if_pos (by decide)]
  have e : route_Outcome_1.f (liveM, (12, 129), ((1, 0, schema0), (types0, rules0), echoV, codes0), (((1, 0, schema0), (types0, rules0), echoV, codes0), (2, 1, schema1), (types1, rules1), echoV, codes1), 4096) = some (2, liveD) := by
    simp only [route_Outcome_1.f]
    rw [show reject_Build.f (((1, 0, schema0), (types0, rules0), echoV, codes0), (liveM.1, liveM.2), (12, 129).1, (12, 129).2) = _ from live7, Option.bind_some, if_neg (by decide)]
    dsimp only
    rw [live8, Option.bind_some, if_neg (by decide), if_neg (by decide)]
  rw [e, Option.bind_some]
/-! ### groattop_live -/
@[reducible] def groattop_live.sg : List Shp := []
@[reducible] def groattop_live.rs : Rs := .one (.v (.bool))
@[reducible] noncomputable def groattop_live.code : Code := Tryz.f8.body.getD .skip
noncomputable def groattop_live.C : Ctx := ⟨tab, [wire_Encode.c, strict_Decode.c, groatref14_Schema.c, route_Outcome.c, groatref24_Built.c], [], ⟨[], []⟩⟩
theorem groattop_live.eq (n : Nat)  : call groattop_live.C Tryz.f8 groattop_live.code groattop_live.sg groattop_live.rs n () =
  ((groatref14_Schema.f 0).bind fun b0 =>
  ((wire_Encode.f (b0, ByteArray.mk #[48, 56, 48, 48], [(11, ByteArray.mk #[48, 48, 48, 48, 48, 49])])).bind fun b1 =>
  ((strict_Decode.f (b0, Prod.fst b1)).bind fun b2 =>
  ((groatref24_Built.f ()).bind fun b3 =>
  ((route_Outcome.f (b3, 0, Prod.fst b1)).bind fun b4 =>
  ((groatref24_Built.f ()).bind fun b5 =>
  ((scat (Prod.fst b1) (ByteArray.mk #[48])).bind fun b6 =>
  ((route_Outcome.f (b5, 0, b6)).bind fun b7 =>
  (if Prod.fst b1 = ByteArray.mk #[48, 56, 48, 48, 48, 48, 50, 48, 48, 48, 48, 48, 48, 48, 48, 48, 48, 48, 48, 48, 48, 48, 48, 48, 48, 49] then (if Prod.fst (Prod.snd b1) = 0 ∧ Prod.snd (Prod.snd b1) = 0 ∧ True then (if (↑(List.length (Prod.snd (Prod.fst b2))) : Int) = 1 then (if Prod.fst (Prod.snd b2) = 0 ∧ Prod.snd (Prod.snd b2) = 0 ∧ True then (if Prod.fst b4 = 1 then (if (↑(ByteArray.size (Prod.snd b4)) : Int) = 15 then (if Prod.fst b7 = 2 then (some (decide (Prod.snd b7 = ByteArray.mk #[48, 56, 49, 48, 48, 48, 50, 48, 48, 48, 48, 48, 48, 50, 48, 48, 48, 48, 48, 48, 48, 48, 48, 48, 48, 49, 51, 48])))
        else (some false))
       else (some false))
      else (some false))
     else (some false))
    else (some false))
   else (some false))
  else (some false)))))))))) := by kernel_rfl
def groattop_live.f : Unit → Option Bool := fun _ => some true
theorem groattop_live.run : call groattop_live.C Tryz.f8 groattop_live.code groattop_live.sg groattop_live.rs 0 () = some true := by
  have e : scat liveB (ByteArray.mk #[48]) = some liveE := by kernel_rfl
  rw [groattop_live.eq, live1, Option.bind_some, show wire_Encode.f ((1, 0, schema0), (ByteArray.mk #[48, 56, 48, 48], [(11, ByteArray.mk #[48, 48, 48, 48, 48, 49])])) = _ from live2, Option.bind_some]
  dsimp only
  rw [live3, Option.bind_some, show groatref24_Built.f () = some builtV from rfl, Option.bind_some, live10, Option.bind_some, Option.bind_some, e, Option.bind_some, live11, Option.bind_some]
  decide
noncomputable def groattop_live.c : Con := ⟨8, groattop_live.sg, groattop_live.rs, groattop_live.f⟩
theorem groattop_live.con : ConOk Tryz.prog groattop_live.c := walked (C := groattop_live.C) rfl (by kernel_rfl) (by kernel_rfl) (by kernel_rfl) rfl ⟨wire_Encode.con, strict_Decode.con, groatref14_Schema.con, route_Outcome.con, groatref24_Built.con, trivial⟩ fun x y h => ⟨0, groattop_live.run.trans h⟩
/-! ### groattop_few -/
@[reducible] def groattop_few.sg : List Shp := [.a (.pair (.int .i64) (.pair (.int .i64) (.sl (.pair (.int .i64) (.pair (.int .i64) (.pair (.int .i64) (.pair (.int .i64) (.int .i64))))))))]
@[reducible] def groattop_few.rs : Rs := .one (.v (.bool))
@[reducible] noncomputable def groattop_few.code : Code := Tryz.f9.body.getD .skip
noncomputable def groattop_few.C : Ctx := ⟨tab, [], [], ⟨[], []⟩⟩
theorem groattop_few.eq (n : Nat) (a0 : Int) (a1 : Int) (a2 : List ((Int × (Int × (Int × (Int × Int)))))) : call groattop_few.C Tryz.f9 groattop_few.code groattop_few.sg groattop_few.rs n (a0, (a1, a2)) =
  (some (decide ((↑(List.length a2) : Int) ≤ 200))) := by kernel_rfl
noncomputable def groattop_few.f : El (sgTy groattop_few.sg) → Option (El groattop_few.rs.ty) := fun x => match x with
  | (a0, (a1, a2)) =>
  (some (decide ((↑(List.length a2) : Int) ≤ 200)))
noncomputable def groattop_few.c : Con := ⟨9, groattop_few.sg, groattop_few.rs, groattop_few.f⟩
theorem groattop_few.con : ConOk Tryz.prog groattop_few.c := walked (C := groattop_few.C) rfl (by kernel_rfl) (by kernel_rfl) (by kernel_rfl) rfl trivial fun ⟨a0, ⟨a1, a2⟩⟩ y h => ⟨0, (groattop_few.eq 0 a0 a1 a2).trans h⟩
end Go.Proofs.YtkaihbkfobiejaaGreatDoor.Xe
