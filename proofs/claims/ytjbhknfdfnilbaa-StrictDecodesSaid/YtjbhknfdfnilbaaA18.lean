/- The laws' word on decoding that must be awake. -/
import Derived.Test.YtjbhknfdfnilbaaEst
import Derived.Test.YtjbhknfdfnilbaaEr14
import Derived.Test.YtjbhknfdfnilbaaEr16
namespace Go.Proofs.Ytjbhknfdfnilbaa.Xe
open Go Go.RowKit Go.Proofs.Ytjbhknfdfnilbaa.Sp
set_option linter.unusedVariables false
set_option linter.unusedSimpArgs false
set_option maxRecDepth 100000
/-! ### groatlaw18_awake -/
@[reducible] def groatlaw18_awake.sg : List Shp := []
@[reducible] def groatlaw18_awake.rs : Rs := .one (.v (.bool))
@[reducible] noncomputable def groatlaw18_awake.code : Code := Try.f32.body.getD .skip
noncomputable def groatlaw18_awake.C : Ctx := ⟨tab, [groatref16_Same.c, strict_Decode.c, groatref14_Schema.c], [], ⟨[], []⟩⟩
theorem groatlaw18_awake.eqg (n : Nat) (f_groatref16_Same : El (sgTy groatref16_Same.sg) → Option (El groatref16_Same.rs.ty)) (f_strict_Decode : El (sgTy strict_Decode.sg) → Option (El strict_Decode.rs.ty)) (f_groatref14_Schema : El (sgTy groatref14_Schema.sg) → Option (El groatref14_Schema.rs.ty))  : call ⟨tab, [⟨groatref16_Same.c.1, groatref16_Same.sg, groatref16_Same.rs, f_groatref16_Same⟩, ⟨strict_Decode.c.1, strict_Decode.sg, strict_Decode.rs, f_strict_Decode⟩, ⟨groatref14_Schema.c.1, groatref14_Schema.sg, groatref14_Schema.rs, f_groatref14_Schema⟩], [], ⟨[], []⟩⟩ Try.f32 groatlaw18_awake.code groatlaw18_awake.sg groatlaw18_awake.rs n () =
  ((f_groatref14_Schema 0).bind fun b0 =>
  ((f_strict_Decode (b0, ByteArray.mk #[48, 56, 48, 48, 48, 48, 50, 48, 48, 48, 48, 48, 48, 48, 48, 48, 48, 48, 48, 48, 49, 50, 51, 52, 53, 54])).bind fun b1 =>
  ((f_strict_Decode (b0, ByteArray.mk #[48, 56, 48, 48, 48, 48, 50, 48, 48, 48, 48, 48, 48, 48, 48, 48, 48, 48, 48, 48, 49, 50, 51, 52, 53])).bind fun b2 =>
  ((f_strict_Decode (b0, ByteArray.mk #[48, 57, 48, 48, 120])).bind fun b3 =>
  ((f_groatref16_Same (Prod.fst b1, ByteArray.mk #[48, 56, 48, 48], [(11, ByteArray.mk #[49, 50, 51, 52, 53, 54])])).bind fun b4 =>
  (if b4 = true then (if Prod.fst (Prod.snd b1) = 0 ∧ Prod.snd (Prod.snd b1) = 0 ∧ True then ((f_groatref16_Same (Prod.fst b2, ByteArray.mk #[48, 56, 48, 48], [])).bind fun b5 =>
    (if b5 = true then (if Prod.fst (Prod.snd b2) = 2 ∧ Prod.snd (Prod.snd b2) = 11 ∧ True then (some (decide (Prod.fst (Prod.snd b3) = 2 ∧ Prod.snd (Prod.snd b3) = 1 ∧ True)))
     else (some false))
    else (some false)))
   else (some false))
  else (some false))))))) := by kernel_rfl
theorem groatlaw18_awake.eq (n : Nat)  : call groatlaw18_awake.C Try.f32 groatlaw18_awake.code groatlaw18_awake.sg groatlaw18_awake.rs n () =
  ((groatref14_Schema.f 0).bind fun b0 =>
  ((strict_Decode.f (b0, ByteArray.mk #[48, 56, 48, 48, 48, 48, 50, 48, 48, 48, 48, 48, 48, 48, 48, 48, 48, 48, 48, 48, 49, 50, 51, 52, 53, 54])).bind fun b1 =>
  ((strict_Decode.f (b0, ByteArray.mk #[48, 56, 48, 48, 48, 48, 50, 48, 48, 48, 48, 48, 48, 48, 48, 48, 48, 48, 48, 48, 49, 50, 51, 52, 53])).bind fun b2 =>
  ((strict_Decode.f (b0, ByteArray.mk #[48, 57, 48, 48, 120])).bind fun b3 =>
  ((groatref16_Same.f (Prod.fst b1, ByteArray.mk #[48, 56, 48, 48], [(11, ByteArray.mk #[49, 50, 51, 52, 53, 54])])).bind fun b4 =>
  (if b4 = true then (if Prod.fst (Prod.snd b1) = 0 ∧ Prod.snd (Prod.snd b1) = 0 ∧ True then ((groatref16_Same.f (Prod.fst b2, ByteArray.mk #[48, 56, 48, 48], [])).bind fun b5 =>
    (if b5 = true then (if Prod.fst (Prod.snd b2) = 2 ∧ Prod.snd (Prod.snd b2) = 11 ∧ True then (some (decide (Prod.fst (Prod.snd b3) = 2 ∧ Prod.snd (Prod.snd b3) = 1 ∧ True)))
     else (some false))
    else (some false)))
   else (some false))
  else (some false))))))) := groatlaw18_awake.eqg n groatref16_Same.f strict_Decode.f groatref14_Schema.f
def groatlaw18_awake.f (_ : Unit) : Option Bool := some true
noncomputable def schS : Int × Int × List S5 := (1, 0, tabS.flatMap (pickS 0))
theorem groatlaw18_awake.run : call groatlaw18_awake.C Try.f32 groatlaw18_awake.code groatlaw18_awake.sg groatlaw18_awake.rs 0 () = some true := by
  have e0 : groatref14_Schema.f 0 = some schS := rfl
  have e1 : strict_Decode.f (schS, ByteArray.mk #[48, 56, 48, 48, 48, 48, 50, 48, 48, 48, 48, 48, 48, 48, 48, 48, 48, 48, 48, 48, 49, 50, 51, 52, 53, 54]) = some ((ByteArray.mk #[48, 56, 48, 48], [(11, ByteArray.mk #[49, 50, 51, 52, 53, 54])]), 0, 0) := by decide +kernel
  have e2 : strict_Decode.f (schS, ByteArray.mk #[48, 56, 48, 48, 48, 48, 50, 48, 48, 48, 48, 48, 48, 48, 48, 48, 48, 48, 48, 48, 49, 50, 51, 52, 53]) = some ((ByteArray.mk #[48, 56, 48, 48], []), 2, 11) := by decide +kernel
  have e3 : strict_Decode.f (schS, ByteArray.mk #[48, 57, 48, 48, 120]) = some ((ByteArray.mk #[48, 57, 48, 48], []), 2, 1) := by decide +kernel
  have e4 := groatref16_Same (ByteArray.mk #[48, 56, 48, 48]) (ByteArray.mk #[48, 56, 48, 48]) [(11, ByteArray.mk #[49, 50, 51, 52, 53, 54])] [(11, ByteArray.mk #[49, 50, 51, 52, 53, 54])] (by decide)
  have e5 := groatref16_Same (ByteArray.mk #[48, 56, 48, 48]) (ByteArray.mk #[48, 56, 48, 48]) [] [] (by decide)
  rw [decide_eq_true rfl] at e4 e5
  rw [groatlaw18_awake.eq, e0, Option.bind_some, e1, Option.bind_some, e2, Option.bind_some, e3, Option.bind_some]
  dsimp only
  rw [e4, Option.bind_some, if_pos rfl, if_pos ⟨rfl, rfl, trivial⟩, e5, Option.bind_some, if_pos rfl, if_pos ⟨rfl, rfl, trivial⟩]
  simp
noncomputable def groatlaw18_awake.c : Con := ⟨32, groatlaw18_awake.sg, groatlaw18_awake.rs, groatlaw18_awake.f⟩
theorem groatlaw18_awake.con : ConOk Try.prog groatlaw18_awake.c := walked (C := groatlaw18_awake.C) rfl (by kernel_rfl) (by kernel_rfl) (by kernel_rfl) rfl ⟨groatref16_Same.con, strict_Decode.con, groatref14_Schema.con, trivial⟩ fun _ y h => ⟨0, groatlaw18_awake.run.trans h⟩
end Go.Proofs.Ytjbhknfdfnilbaa.Xe
