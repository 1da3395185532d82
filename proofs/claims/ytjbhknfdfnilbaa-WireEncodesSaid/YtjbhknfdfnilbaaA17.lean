/- The laws' word on encoding that must be awake. -/
import Derived.Test.YtjbhknfdfnilbaaEwe
import Derived.Test.YtjbhknfdfnilbaaEr14
namespace Go.Proofs.Ytjbhknfdfnilbaa.Xe
open Go Go.RowKit Go.Proofs.Ytjbhknfdfnilbaa.Sp
set_option linter.unusedVariables false
set_option linter.unusedSimpArgs false
set_option maxRecDepth 100000
/-! ### groatlaw17_awake -/
@[reducible] def groatlaw17_awake.sg : List Shp := []
@[reducible] def groatlaw17_awake.rs : Rs := .one (.v (.bool))
@[reducible] noncomputable def groatlaw17_awake.code : Code := Try.f14.body.getD .skip
noncomputable def groatlaw17_awake.C : Ctx := ⟨tab, [wire_Encode.c, groatref14_Schema.c], [], ⟨[], []⟩⟩
theorem groatlaw17_awake.eqg (n : Nat) (f_wire_Encode : El (sgTy wire_Encode.sg) → Option (El wire_Encode.rs.ty)) (f_groatref14_Schema : El (sgTy groatref14_Schema.sg) → Option (El groatref14_Schema.rs.ty))  : call ⟨tab, [⟨wire_Encode.c.1, wire_Encode.sg, wire_Encode.rs, f_wire_Encode⟩, ⟨groatref14_Schema.c.1, groatref14_Schema.sg, groatref14_Schema.rs, f_groatref14_Schema⟩], [], ⟨[], []⟩⟩ Try.f14 groatlaw17_awake.code groatlaw17_awake.sg groatlaw17_awake.rs n () =
  ((f_groatref14_Schema 0).bind fun b0 =>
  ((f_wire_Encode (b0, ByteArray.mk #[48, 56, 48, 48], [(11, ByteArray.mk #[49, 50, 51, 52, 53, 54]), (70, ByteArray.mk #[51, 48, 49])])).bind fun b1 =>
  ((f_groatref14_Schema 1).bind fun b2 =>
  ((f_wire_Encode (b2, ByteArray.mk #[49, 56, 48, 48], [(11, ByteArray.mk #[49, 50, 51, 52, 53, 54]), (70, ByteArray.mk #[51, 48, 49])])).bind fun b3 =>
  ((f_groatref14_Schema 0).bind fun b4 =>
  ((f_wire_Encode (b4, ByteArray.mk #[49, 56, 48, 48], [(11, ByteArray.mk #[49, 50, 51, 52, 53, 54]), (70, ByteArray.mk #[51, 48, 49])])).bind fun b5 =>
  (if Prod.fst b1 = ByteArray.mk #[48, 56, 48, 48, 56, 48, 50, 48, 48, 48, 48, 48, 48, 48, 48, 48, 48, 48, 48, 48, 48, 52, 48, 48, 48, 48, 48, 48, 48, 48, 48, 48, 48, 48, 48, 48, 49, 50, 51, 52, 53, 54, 51, 48, 49] then (if Prod.fst (Prod.snd b1) = 0 ∧ Prod.snd (Prod.snd b1) = 0 ∧ True then (if Prod.fst b3 = ByteArray.mk #[24, 0, 128, 32, 0, 0, 0, 0, 0, 0, 4, 0, 0, 0, 0, 0, 0, 0, 18, 52, 86, 3, 1] then (if Prod.fst (Prod.snd b3) = 0 ∧ Prod.snd (Prod.snd b3) = 0 ∧ True then (some (decide (Prod.fst (Prod.snd b5) = 7 ∧ Prod.snd (Prod.snd b5) = 0 ∧ True)))
     else (some false))
    else (some false))
   else (some false))
  else (some false)))))))) := by kernel_rfl
theorem groatlaw17_awake.eq (n : Nat)  : call groatlaw17_awake.C Try.f14 groatlaw17_awake.code groatlaw17_awake.sg groatlaw17_awake.rs n () =
  ((groatref14_Schema.f 0).bind fun b0 =>
  ((wire_Encode.f (b0, ByteArray.mk #[48, 56, 48, 48], [(11, ByteArray.mk #[49, 50, 51, 52, 53, 54]), (70, ByteArray.mk #[51, 48, 49])])).bind fun b1 =>
  ((groatref14_Schema.f 1).bind fun b2 =>
  ((wire_Encode.f (b2, ByteArray.mk #[49, 56, 48, 48], [(11, ByteArray.mk #[49, 50, 51, 52, 53, 54]), (70, ByteArray.mk #[51, 48, 49])])).bind fun b3 =>
  ((groatref14_Schema.f 0).bind fun b4 =>
  ((wire_Encode.f (b4, ByteArray.mk #[49, 56, 48, 48], [(11, ByteArray.mk #[49, 50, 51, 52, 53, 54]), (70, ByteArray.mk #[51, 48, 49])])).bind fun b5 =>
  (if Prod.fst b1 = ByteArray.mk #[48, 56, 48, 48, 56, 48, 50, 48, 48, 48, 48, 48, 48, 48, 48, 48, 48, 48, 48, 48, 48, 52, 48, 48, 48, 48, 48, 48, 48, 48, 48, 48, 48, 48, 48, 48, 49, 50, 51, 52, 53, 54, 51, 48, 49] then (if Prod.fst (Prod.snd b1) = 0 ∧ Prod.snd (Prod.snd b1) = 0 ∧ True then (if Prod.fst b3 = ByteArray.mk #[24, 0, 128, 32, 0, 0, 0, 0, 0, 0, 4, 0, 0, 0, 0, 0, 0, 0, 18, 52, 86, 3, 1] then (if Prod.fst (Prod.snd b3) = 0 ∧ Prod.snd (Prod.snd b3) = 0 ∧ True then (some (decide (Prod.fst (Prod.snd b5) = 7 ∧ Prod.snd (Prod.snd b5) = 0 ∧ True)))
     else (some false))
    else (some false))
   else (some false))
  else (some false)))))))) := groatlaw17_awake.eqg n wire_Encode.f groatref14_Schema.f
def groatlaw17_awake.f (_ : Unit) : Option Bool := some true
noncomputable def schW0 : Int × Int × List S5 := (1, 0, tabS.flatMap (pickS 0))
noncomputable def schW1 : Int × Int × List S5 := (2, 1, tabS.flatMap (pickS 1))
theorem groatlaw17_awake.run : call groatlaw17_awake.C Try.f14 groatlaw17_awake.code groatlaw17_awake.sg groatlaw17_awake.rs 0 () = some true := by
  have e0 : groatref14_Schema.f 0 = some schW0 := rfl
  have e1 : groatref14_Schema.f 1 = some schW1 := rfl
  have e2 : wire_Encode.f (schW0, ByteArray.mk #[48, 56, 48, 48], [(11, ByteArray.mk #[49, 50, 51, 52, 53, 54]), (70, ByteArray.mk #[51, 48, 49])]) = some (ByteArray.mk #[48, 56, 48, 48, 56, 48, 50, 48, 48, 48, 48, 48, 48, 48, 48, 48, 48, 48, 48, 48, 48, 52, 48, 48, 48, 48, 48, 48, 48, 48, 48, 48, 48, 48, 48, 48, 49, 50, 51, 52, 53, 54, 51, 48, 49], 0, 0) := by decide +kernel
  have e3 : wire_Encode.f (schW1, ByteArray.mk #[49, 56, 48, 48], [(11, ByteArray.mk #[49, 50, 51, 52, 53, 54]), (70, ByteArray.mk #[51, 48, 49])]) = some (ByteArray.mk #[24, 0, 128, 32, 0, 0, 0, 0, 0, 0, 4, 0, 0, 0, 0, 0, 0, 0, 18, 52, 86, 3, 1], 0, 0) := by decide +kernel
  have e4 : wire_Encode.f (schW0, ByteArray.mk #[49, 56, 48, 48], [(11, ByteArray.mk #[49, 50, 51, 52, 53, 54]), (70, ByteArray.mk #[51, 48, 49])]) = some (ByteArray.mk #[], 7, 0) := by decide +kernel
  rw [groatlaw17_awake.eq, e0, Option.bind_some, e2, Option.bind_some, e1, Option.bind_some, e3, Option.bind_some, Option.bind_some, e4, Option.bind_some]
  dsimp only
  rw [if_pos rfl, if_pos ⟨rfl, rfl, trivial⟩, if_pos rfl, if_pos ⟨rfl, rfl, trivial⟩]
  simp
noncomputable def groatlaw17_awake.c : Con := ⟨14, groatlaw17_awake.sg, groatlaw17_awake.rs, groatlaw17_awake.f⟩
theorem groatlaw17_awake.con : ConOk Try.prog groatlaw17_awake.c := walked (C := groatlaw17_awake.C) rfl (by kernel_rfl) (by kernel_rfl) (by kernel_rfl) rfl ⟨wire_Encode.con, groatref14_Schema.con, trivial⟩ fun _ y h => ⟨0, groatlaw17_awake.run.trans h⟩
end Go.Proofs.Ytjbhknfdfnilbaa.Xe
