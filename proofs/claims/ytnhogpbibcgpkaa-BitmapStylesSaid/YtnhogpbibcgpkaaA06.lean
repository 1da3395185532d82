/- The laws' word on bit maps that must be awake. -/
import Derived.Test.YtnhogpbibcgpkaaEbm
import Derived.Test.YtnhogpbibcgpkaaEfl
namespace Go.Proofs.Ytnhogpbibcgpkaa.Xe
open Go Go.RowKit Go.Proofs.Ytnhogpbibcgpkaa.Sp
set_option linter.unusedVariables false
set_option linter.unusedSimpArgs false
set_option maxRecDepth 100000
/-! ### groatlaw06_awake -/
@[reducible] def groatlaw06_awake.sg : List Shp := []
@[reducible] def groatlaw06_awake.rs : Rs := .one (.v (.bool))
@[reducible] noncomputable def groatlaw06_awake.code : Code := Try.f12.body.getD .skip
noncomputable def groatlaw06_awake.C : Ctx := ⟨tab, [bitmap_Put.c, bitmap_Get.c, fields_Of.c], [], ⟨[], []⟩⟩
theorem groatlaw06_awake.eq (n : Nat)  : call groatlaw06_awake.C Try.f12 groatlaw06_awake.code groatlaw06_awake.sg groatlaw06_awake.rs n () =
  ((fields_Of.f [2, 64]).bind fun b0 =>
  ((bitmap_Put.f (2, b0)).bind fun b1 =>
  ((fields_Of.f [3, 65]).bind fun b2 =>
  ((bitmap_Put.f (1, b2)).bind fun b3 =>
  ((scat (ByteArray.mk #[120]) (Prod.fst b3)).bind fun b4 =>
  ((bitmap_Get.f (1, b4, 1)).bind fun b5 =>
  ((bitmap_Get.f (2, ByteArray.mk #[192, 0, 0, 0, 0, 0, 0, 0, 0, 0, 0, 0, 0, 0, 0, 0], 0)).bind fun b6 =>
  ((fields_Of.f [1]).bind fun b7 =>
  ((bitmap_Put.f (1, b7)).bind fun b8 =>
  (if Prod.fst b1 = ByteArray.mk #[64, 0, 0, 0, 0, 0, 0, 1] then (if Prod.snd b1 = 0 then (if Prod.fst b3 = ByteArray.mk #[65, 48, 48, 48, 48, 48, 48, 48, 48, 48, 48, 48, 48, 48, 48, 48, 56, 48, 48, 48, 48, 48, 48, 48, 48, 48, 48, 48, 48, 48, 48, 48] then ((fields_Of.f [3, 65]).bind fun b9 =>
     (if Prod.fst (Prod.fst b5) = Prod.fst b9 ∧ Prod.snd (Prod.fst b5) = Prod.snd b9 ∧ True then (if Prod.fst (Prod.snd b5) = 33 then (if Prod.snd (Prod.snd b5) = 0 then (if Prod.snd (Prod.snd b6) = 8 then (some (decide (Prod.snd b8 = 1)))
        else (some false))
       else (some false))
      else (some false))
     else (some false)))
    else (some false))
   else (some false))
  else (some false))))))))))) := by kernel_rfl
def groatlaw06_awake.f (_ : Unit) : Option Bool := some true
theorem groatlaw06_awake.run : call groatlaw06_awake.C Try.f12 groatlaw06_awake.code groatlaw06_awake.sg groatlaw06_awake.rs 0 () = some true := by
  rw [groatlaw06_awake.eq]
  decide +kernel
noncomputable def groatlaw06_awake.c : Con := ⟨12, groatlaw06_awake.sg, groatlaw06_awake.rs, groatlaw06_awake.f⟩
theorem groatlaw06_awake.con : ConOk Try.prog groatlaw06_awake.c := walked (C := groatlaw06_awake.C) rfl (by kernel_rfl) (by kernel_rfl) (by kernel_rfl) rfl ⟨bitmap_Put.con, bitmap_Get.con, fields_Of.con, trivial⟩ fun _ y h => ⟨0, groatlaw06_awake.run.trans h⟩
theorem wf_u64 {n : Int} (h : (Lit.int .u64 n).wf = true) : 0 ≤ n ∧ n < 18446744073709551616 := by
  have h : (decide (IntKind.min .u64 ≤ n) && decide (n ≤ IntKind.max .u64)) = true := h
  rw [Bool.and_eq_true, decide_eq_true_eq, decide_eq_true_eq] at h
  have h1 : IntKind.min .u64 = 0 := rfl
  have h2 : IntKind.max .u64 = 18446744073709551615 := rfl
  omega
end Go.Proofs.Ytnhogpbibcgpkaa.Xe
