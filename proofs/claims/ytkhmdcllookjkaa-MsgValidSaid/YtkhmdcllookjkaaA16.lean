/- The laws' word on messages that must be awake. -/
import Derived.Test.YtkhmdcllookjkaaEmw
import Derived.Test.YtkhmdcllookjkaaEme
namespace Go.Proofs.Ytkhmdcllookjkaa.Xe
open Go Go.RowKit Go.Proofs.Ytkhmdcllookjkaa.Sp
set_option linter.unusedVariables false
set_option linter.unusedSimpArgs false
set_option maxRecDepth 100000
/-! ### groatlaw16_awake -/
@[reducible] def groatlaw16_awake.sg : List Shp := []
@[reducible] def groatlaw16_awake.rs : Rs := .one (.v (.bool))
@[reducible] noncomputable def groatlaw16_awake.code : Code := Try.f13.body.getD .skip
noncomputable def groatlaw16_awake.C : Ctx := ⟨tab, [msg_Check.c, msg_With.c, msg_Without.c, msg_Get.c, msg_Same.c, msg_Set.c, fields_Of.c], [], ⟨[], []⟩⟩
theorem groatlaw16_awake.eqg (n : Nat) (f_msg_Check : El (sgTy msg_Check.sg) → Option (El msg_Check.rs.ty)) (f_msg_With : El (sgTy msg_With.sg) → Option (El msg_With.rs.ty)) (f_msg_Without : El (sgTy msg_Without.sg) → Option (El msg_Without.rs.ty)) (f_msg_Get : El (sgTy msg_Get.sg) → Option (El msg_Get.rs.ty)) (f_msg_Same : El (sgTy msg_Same.sg) → Option (El msg_Same.rs.ty)) (f_msg_Set : El (sgTy msg_Set.sg) → Option (El msg_Set.rs.ty)) (f_fields_Of : El (sgTy fields_Of.sg) → Option (El fields_Of.rs.ty))  : call ⟨tab, [⟨msg_Check.c.1, msg_Check.sg, msg_Check.rs, f_msg_Check⟩, ⟨msg_With.c.1, msg_With.sg, msg_With.rs, f_msg_With⟩, ⟨msg_Without.c.1, msg_Without.sg, msg_Without.rs, f_msg_Without⟩, ⟨msg_Get.c.1, msg_Get.sg, msg_Get.rs, f_msg_Get⟩, ⟨msg_Same.c.1, msg_Same.sg, msg_Same.rs, f_msg_Same⟩, ⟨msg_Set.c.1, msg_Set.sg, msg_Set.rs, f_msg_Set⟩, ⟨fields_Of.c.1, fields_Of.sg, fields_Of.rs, f_fields_Of⟩], [], ⟨[], []⟩⟩ Try.f13 groatlaw16_awake.code groatlaw16_awake.sg groatlaw16_awake.rs n () =
  ((f_msg_With ((ByteArray.mk #[48, 50, 48, 48], [(4, ByteArray.mk #[49])]), 2, ByteArray.mk #[49, 50, 51])).bind fun b0 =>
  ((f_msg_Get (b0, 2)).bind fun b1 =>
  ((f_msg_Check ((1, 0, [(2, 1, 1, 3, 3), (4, 1, 1, 1, 1)]), b0)).bind fun b2 =>
  (if Prod.fst b2 = 0 ∧ Prod.snd b2 = 0 ∧ True then ((f_msg_Check ((1, 0, [(2, 1, 1, 3, 3), (4, 1, 1, 1, 1)]), ByteArray.mk #[49, 50, 48, 48], [])).bind fun b3 =>
   (if Prod.fst b3 = 7 ∧ Prod.snd b3 = 0 ∧ True then ((f_msg_Check ((1, 0, [(2, 1, 1, 3, 3), (4, 1, 1, 1, 1)]), ByteArray.mk #[48, 50, 48, 48], [(4, ByteArray.mk #[49]), (2, ByteArray.mk #[])])).bind fun b4 =>
    (if Prod.fst b4 = 11 ∧ Prod.snd b4 = 2 ∧ True then (if Prod.fst b1 = ByteArray.mk #[49, 50, 51] then (if Prod.snd b1 = true then ((f_msg_Without (b0, 2)).bind fun b5 =>
       ((f_msg_Same (b5, ByteArray.mk #[48, 50, 48, 48], [(4, ByteArray.mk #[49])])).bind fun b6 =>
       (if b6 = true then ((f_msg_Set b0).bind fun b7 =>
        ((f_fields_Of [2, 4]).bind fun b8 =>
        (some (decide (Prod.fst b7 = Prod.fst b8 ∧ Prod.snd b7 = Prod.snd b8 ∧ True)))))
       else (some false))))
      else (some false))
     else (some false))
    else (some false)))
   else (some false)))
  else (some false))))) := by kernel_rfl
theorem groatlaw16_awake.eq (n : Nat)  : call groatlaw16_awake.C Try.f13 groatlaw16_awake.code groatlaw16_awake.sg groatlaw16_awake.rs n () =
  ((msg_With.f ((ByteArray.mk #[48, 50, 48, 48], [(4, ByteArray.mk #[49])]), 2, ByteArray.mk #[49, 50, 51])).bind fun b0 =>
  ((msg_Get.f (b0, 2)).bind fun b1 =>
  ((msg_Check.f ((1, 0, [(2, 1, 1, 3, 3), (4, 1, 1, 1, 1)]), b0)).bind fun b2 =>
  (if Prod.fst b2 = 0 ∧ Prod.snd b2 = 0 ∧ True then ((msg_Check.f ((1, 0, [(2, 1, 1, 3, 3), (4, 1, 1, 1, 1)]), ByteArray.mk #[49, 50, 48, 48], [])).bind fun b3 =>
   (if Prod.fst b3 = 7 ∧ Prod.snd b3 = 0 ∧ True then ((msg_Check.f ((1, 0, [(2, 1, 1, 3, 3), (4, 1, 1, 1, 1)]), ByteArray.mk #[48, 50, 48, 48], [(4, ByteArray.mk #[49]), (2, ByteArray.mk #[])])).bind fun b4 =>
    (if Prod.fst b4 = 11 ∧ Prod.snd b4 = 2 ∧ True then (if Prod.fst b1 = ByteArray.mk #[49, 50, 51] then (if Prod.snd b1 = true then ((msg_Without.f (b0, 2)).bind fun b5 =>
       ((msg_Same.f (b5, ByteArray.mk #[48, 50, 48, 48], [(4, ByteArray.mk #[49])])).bind fun b6 =>
       (if b6 = true then ((msg_Set.f b0).bind fun b7 =>
        ((fields_Of.f [2, 4]).bind fun b8 =>
        (some (decide (Prod.fst b7 = Prod.fst b8 ∧ Prod.snd b7 = Prod.snd b8 ∧ True)))))
       else (some false))))
      else (some false))
     else (some false))
    else (some false)))
   else (some false)))
  else (some false))))) := groatlaw16_awake.eqg n msg_Check.f msg_With.f msg_Without.f msg_Get.f msg_Same.f msg_Set.f fields_Of.f
def groatlaw16_awake.f (_ : Unit) : Option Bool := some true
theorem groatlaw16_awake.run : call groatlaw16_awake.C Try.f13 groatlaw16_awake.code groatlaw16_awake.sg groatlaw16_awake.rs 0 () = some true := by
  rw [groatlaw16_awake.eq]
  have e0 := msg_With (sb [48, 50, 48, 48]) [(4, sb [49])] (by decide) 2 (sb [49, 50, 51])
  have ew : withV 2 (sb [49, 50, 51]) [(4, sb [49])] = [(2, sb [49, 50, 51]), (4, sb [49])] := by decide +kernel
  rw [ew] at e0
  have e0 : msg_With.f ((ByteArray.mk #[48, 50, 48, 48], [(4, ByteArray.mk #[49])]), 2, ByteArray.mk #[49, 50, 51]) = some (ByteArray.mk #[48, 50, 48, 48], [(2, ByteArray.mk #[49, 50, 51]), (4, ByteArray.mk #[49])]) := e0
  have e1 : msg_Get.f ((ByteArray.mk #[48, 50, 48, 48], [(2, ByteArray.mk #[49, 50, 51]), (4, ByteArray.mk #[49])]), 2) = some (ByteArray.mk #[49, 50, 51], true) := by decide +kernel
  have e2 : msg_Check.f ((1, 0, [(2, 1, 1, 3, 3), (4, 1, 1, 1, 1)]), ByteArray.mk #[48, 50, 48, 48], [(2, ByteArray.mk #[49, 50, 51]), (4, ByteArray.mk #[49])]) = some (0, 0) := by decide +kernel
  have e3 : msg_Check.f ((1, 0, [(2, 1, 1, 3, 3), (4, 1, 1, 1, 1)]), ByteArray.mk #[49, 50, 48, 48], []) = some (7, 0) := by decide +kernel
  have e4 : msg_Check.f ((1, 0, [(2, 1, 1, 3, 3), (4, 1, 1, 1, 1)]), ByteArray.mk #[48, 50, 48, 48], [(4, ByteArray.mk #[49]), (2, ByteArray.mk #[])]) = some (11, 2) := by decide +kernel
  have e5 : msg_Without.f ((ByteArray.mk #[48, 50, 48, 48], [(2, ByteArray.mk #[49, 50, 51]), (4, ByteArray.mk #[49])]), 2) = some (ByteArray.mk #[48, 50, 48, 48], [(4, ByteArray.mk #[49])]) := by decide +kernel
  have e6 : msg_Same.f ((ByteArray.mk #[48, 50, 48, 48], [(4, ByteArray.mk #[49])]), ByteArray.mk #[48, 50, 48, 48], [(4, ByteArray.mk #[49])]) = some true := by decide +kernel
  have e7 : msg_Set.f (ByteArray.mk #[48, 50, 48, 48], [(2, ByteArray.mk #[49, 50, 51]), (4, ByteArray.mk #[49])]) = fields_Of.f [2, 4] := by decide +kernel
  have e8 := fields_Of [2, 4] (by decide)
  rw [e0, Option.bind_some, e1, Option.bind_some, e2, Option.bind_some, if_pos ⟨rfl, rfl, trivial⟩, e3, Option.bind_some, if_pos ⟨rfl, rfl, trivial⟩, e4, Option.bind_some, if_pos ⟨rfl, rfl, trivial⟩, if_pos rfl, if_pos rfl, e5, Option.bind_some, e6, Option.bind_some, if_pos rfl, e7, e8, Option.bind_some, Option.bind_some, decide_eq_true ⟨rfl, rfl, trivial⟩]
noncomputable def groatlaw16_awake.c : Con := ⟨13, groatlaw16_awake.sg, groatlaw16_awake.rs, groatlaw16_awake.f⟩
theorem groatlaw16_awake.con : ConOk Try.prog groatlaw16_awake.c := walked (C := groatlaw16_awake.C) rfl (by kernel_rfl) (by kernel_rfl) (by kernel_rfl) rfl ⟨msg_Check.con, msg_With.con, msg_Without.con, msg_Get.con, msg_Same.con, msg_Set.con, fields_Of.con, trivial⟩ fun _ y h => ⟨0, groatlaw16_awake.run.trans h⟩
end Go.Proofs.Ytkhmdcllookjkaa.Xe
