/- The laws' word on refusals that must be awake. -/
import Derived.Test.YtkhmdcllookjkaaErb
import Derived.Test.YtkhmdcllookjkaaErk2
import Derived.Test.YtkhmdcllookjkaaEr14
import Derived.Test.YtkhmdcllookjkaaEr16
namespace Go.Proofs.Ytkhmdcllookjkaa.Xe
open Go Go.RowKit Go.Proofs.Ytkhmdcllookjkaa.Sp
set_option linter.unusedVariables false
set_option linter.unusedSimpArgs false
set_option maxRecDepth 100000
/-! ### groatlaw23_awake -/
@[reducible] def groatlaw23_awake.sg : List Shp := []
@[reducible] def groatlaw23_awake.rs : Rs := .one (.v (.bool))
@[reducible] noncomputable def groatlaw23_awake.code : Code := Try.f31.body.getD .skip
noncomputable def groatlaw23_awake.C : Ctx := ⟨tab, [groatref16_Same.c, reject_Check.c, reject_Code.c, reject_Build.c, groatref14_Schema.c], [], ⟨[], []⟩⟩
theorem groatlaw23_awake.eqg (n : Nat) (f_groatref16_Same : El (sgTy groatref16_Same.sg) → Option (El groatref16_Same.rs.ty)) (f_reject_Check : El (sgTy reject_Check.sg) → Option (El reject_Check.rs.ty)) (f_reject_Code : El (sgTy reject_Code.sg) → Option (El reject_Code.rs.ty)) (f_reject_Build : El (sgTy reject_Build.sg) → Option (El reject_Build.rs.ty)) (f_groatref14_Schema : El (sgTy groatref14_Schema.sg) → Option (El groatref14_Schema.rs.ty))  : call ⟨tab, [⟨groatref16_Same.c.1, groatref16_Same.sg, groatref16_Same.rs, f_groatref16_Same⟩, ⟨reject_Check.c.1, reject_Check.sg, reject_Check.rs, f_reject_Check⟩, ⟨reject_Code.c.1, reject_Code.sg, reject_Code.rs, f_reject_Code⟩, ⟨reject_Build.c.1, reject_Build.sg, reject_Build.rs, f_reject_Build⟩, ⟨groatref14_Schema.c.1, groatref14_Schema.sg, groatref14_Schema.rs, f_groatref14_Schema⟩], [], ⟨[], []⟩⟩ Try.f31 groatlaw23_awake.code groatlaw23_awake.sg groatlaw23_awake.rs n () =
  ((f_groatref14_Schema 0).bind fun b0 =>
  ((f_reject_Build ((b0, ([], []), [11, 41], [(0, ByteArray.mk #[57, 54]), (2, ByteArray.mk #[51, 48])]), (ByteArray.mk #[48, 50, 48, 48], [(3, ByteArray.mk #[48, 48, 48, 48, 48, 48]), (11, ByteArray.mk #[49, 50, 51, 52, 53, 54])]), 2, 0)).bind fun b1 =>
  ((f_reject_Build ((b0, ([], []), [11, 41], [(0, ByteArray.mk #[57, 54]), (2, ByteArray.mk #[51, 48])]), (ByteArray.mk #[48, 50, 49, 48], []), 2, 0)).bind fun b2 =>
  ((f_reject_Check (b0, ([], []), [11, 41], [(0, ByteArray.mk #[57, 54]), (2, ByteArray.mk #[51, 48])])).bind fun b3 =>
  ((f_groatref16_Same (Prod.fst b1, ByteArray.mk #[48, 50, 49, 48], [(11, ByteArray.mk #[49, 50, 51, 52, 53, 54]), (39, ByteArray.mk #[51, 48])])).bind fun b4 =>
  (if b4 = true then (if Prod.snd b1 = true then (if ¬Prod.snd b2 = true then (if Prod.fst b3 = 0 then (if Prod.fst (Prod.snd b3) = 0 then (if Prod.snd (Prod.snd b3) = 0 then ((f_reject_Code ((b0, ([], []), [11, 41], [(0, ByteArray.mk #[57, 54]), (2, ByteArray.mk #[51, 48])]), 13)).bind fun b5 =>
        (some (decide (b5 = ByteArray.mk #[57, 54]))))
       else (some false))
      else (some false))
     else (some false))
    else (some false))
   else (some false))
  else (some false))))))) := by kernel_rfl
theorem groatlaw23_awake.eq (n : Nat)  : call groatlaw23_awake.C Try.f31 groatlaw23_awake.code groatlaw23_awake.sg groatlaw23_awake.rs n () =
  ((groatref14_Schema.f 0).bind fun b0 =>
  ((reject_Build.f ((b0, ([], []), [11, 41], [(0, ByteArray.mk #[57, 54]), (2, ByteArray.mk #[51, 48])]), (ByteArray.mk #[48, 50, 48, 48], [(3, ByteArray.mk #[48, 48, 48, 48, 48, 48]), (11, ByteArray.mk #[49, 50, 51, 52, 53, 54])]), 2, 0)).bind fun b1 =>
  ((reject_Build.f ((b0, ([], []), [11, 41], [(0, ByteArray.mk #[57, 54]), (2, ByteArray.mk #[51, 48])]), (ByteArray.mk #[48, 50, 49, 48], []), 2, 0)).bind fun b2 =>
  ((reject_Check.f (b0, ([], []), [11, 41], [(0, ByteArray.mk #[57, 54]), (2, ByteArray.mk #[51, 48])])).bind fun b3 =>
  ((groatref16_Same.f (Prod.fst b1, ByteArray.mk #[48, 50, 49, 48], [(11, ByteArray.mk #[49, 50, 51, 52, 53, 54]), (39, ByteArray.mk #[51, 48])])).bind fun b4 =>
  (if b4 = true then (if Prod.snd b1 = true then (if ¬Prod.snd b2 = true then (if Prod.fst b3 = 0 then (if Prod.fst (Prod.snd b3) = 0 then (if Prod.snd (Prod.snd b3) = 0 then ((reject_Code.f ((b0, ([], []), [11, 41], [(0, ByteArray.mk #[57, 54]), (2, ByteArray.mk #[51, 48])]), 13)).bind fun b5 =>
        (some (decide (b5 = ByteArray.mk #[57, 54]))))
       else (some false))
      else (some false))
     else (some false))
    else (some false))
   else (some false))
  else (some false))))))) := groatlaw23_awake.eqg n groatref16_Same.f reject_Check.f reject_Code.f reject_Build.f groatref14_Schema.f
def groatlaw23_awake.f (_ : Unit) : Option Bool := some true
noncomputable def sch0 : Int × Int × List S5 := (1, 0, tabS.flatMap (pickS 0))
theorem groatlaw23_awake.run : call groatlaw23_awake.C Try.f31 groatlaw23_awake.code groatlaw23_awake.sg groatlaw23_awake.rs 0 () = some true := by
  have e0 : groatref14_Schema.f 0 = some sch0 := rfl
  have e1 : reject_Build.f ((sch0, ([], []), [11, 41], [(0, ByteArray.mk #[57, 54]), (2, ByteArray.mk #[51, 48])]), (ByteArray.mk #[48, 50, 48, 48], [(3, ByteArray.mk #[48, 48, 48, 48, 48, 48]), (11, ByteArray.mk #[49, 50, 51, 52, 53, 54])]), 2, 0) = some ((ByteArray.mk #[48, 50, 49, 48], [(11, ByteArray.mk #[49, 50, 51, 52, 53, 54]), (39, ByteArray.mk #[51, 48])]), true) := by decide +kernel
  have e2 : reject_Build.f ((sch0, ([], []), [11, 41], [(0, ByteArray.mk #[57, 54]), (2, ByteArray.mk #[51, 48])]), (ByteArray.mk #[48, 50, 49, 48], []), 2, 0) = some ((ByteArray.mk #[], []), false) := by decide +kernel
  have e3 : reject_Check.f (sch0, ([], []), [11, 41], [(0, ByteArray.mk #[57, 54]), (2, ByteArray.mk #[51, 48])]) = some (0, 0, 0) := by decide +kernel
  have e4 := groatref16_Same (ByteArray.mk #[48, 50, 49, 48]) (ByteArray.mk #[48, 50, 49, 48]) [(11, ByteArray.mk #[49, 50, 51, 52, 53, 54]), (39, ByteArray.mk #[51, 48])] [(11, ByteArray.mk #[49, 50, 51, 52, 53, 54]), (39, ByteArray.mk #[51, 48])] (by decide)
  rw [decide_eq_true rfl] at e4
  have e5 : reject_Code.f ((sch0, ([], []), [11, 41], [(0, ByteArray.mk #[57, 54]), (2, ByteArray.mk #[51, 48])]), 13) = some (ByteArray.mk #[57, 54]) := by decide +kernel
  rw [groatlaw23_awake.eq, e0, Option.bind_some, e1, Option.bind_some, e2, Option.bind_some, e3, Option.bind_some]
  dsimp only
  rw [e4, Option.bind_some, if_pos rfl, if_pos rfl, if_pos (by simp), if_pos rfl, if_pos rfl, if_pos rfl, e5, Option.bind_some]
  simp
noncomputable def groatlaw23_awake.c : Con := ⟨31, groatlaw23_awake.sg, groatlaw23_awake.rs, groatlaw23_awake.f⟩
theorem groatlaw23_awake.con : ConOk Try.prog groatlaw23_awake.c := walked (C := groatlaw23_awake.C) rfl (by kernel_rfl) (by kernel_rfl) (by kernel_rfl) rfl ⟨groatref16_Same.con, reject_Check.con, reject_Code.con, reject_Build.con, groatref14_Schema.con, trivial⟩ fun _ y h => ⟨0, groatlaw23_awake.run.trans h⟩
end Go.Proofs.Ytkhmdcllookjkaa.Xe
