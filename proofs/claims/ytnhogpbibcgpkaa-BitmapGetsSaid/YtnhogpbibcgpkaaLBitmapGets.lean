/- The law on what is got. -/
import Derived.Test.YtnhogpbibcgpkaaA06
import Derived.Test.YtnhogpbibcgpkaaEr06g
import Derived.Test.YtnhogpbibcgpkaaXop
namespace Go.Proofs.Ytnhogpbibcgpkaa.Xe
open Go Go.RowKit Go.Proofs.Ytnhogpbibcgpkaa.Sp
set_option linter.unusedVariables false
set_option linter.unusedSimpArgs false
set_option maxRecDepth 100000
/-! ### groatlaw06_BitmapGets -/
@[reducible] def groatlaw06_BitmapGets.sg : List Shp := [.v (.int .i64), .v (.str), .v (.int .i64)]
@[reducible] def groatlaw06_BitmapGets.rs : Rs := .one (.v (.bool))
@[reducible] noncomputable def groatlaw06_BitmapGets.code : Code := Try.f4.body.getD .skip
noncomputable def groatlaw06_BitmapGets.C : Ctx := ⟨tab, [fields_Bits.c, groatlaw06_awake.c, bitmap_Get.c, groatref06_Get.c, groatref05_Halves.c], [], ⟨[], []⟩⟩
theorem groatlaw06_BitmapGets.eq (n : Nat) (a0 : Int) (a1 : ByteArray) (a2 : Int) : call groatlaw06_BitmapGets.C Try.f4 groatlaw06_BitmapGets.code groatlaw06_BitmapGets.sg groatlaw06_BitmapGets.rs n (a0, (a1, a2)) =
  ((groatlaw06_awake.f ()).bind fun b0 =>
  (if ¬b0 = true then ((groatlaw06_awake.f ()).bind fun b1 =>
   (some (decide (b1 = true))))
  else (if (↑(ByteArray.size a1) : Int) > 500 then ((groatlaw06_awake.f ()).bind fun b2 =>
    (some (decide (b2 = true))))
   else ((bitmap_Get.f (a0, a1, a2)).bind fun b3 =>
    ((groatref06_Get.f (a0, a1, a2)).bind fun b4 =>
    ((groatref05_Halves.f (Prod.fst b4)).bind fun b5 =>
    ((fields_Bits.f b5).bind fun b6 =>
    (if Prod.fst (Prod.fst b3) = Prod.fst b6 ∧ Prod.snd (Prod.fst b3) = Prod.snd b6 ∧ True then (if Prod.fst (Prod.snd b3) = Prod.fst (Prod.snd b4) then (some (decide (Prod.snd (Prod.snd b3) = Prod.snd (Prod.snd b4))))
     else (some false))
    else (some false))))))))) := by kernel_rfl
theorem groatlaw06_BitmapGets.ok : CtxOk Try.prog groatlaw06_BitmapGets.C := ⟨AllOk.all (show AllOk groatlaw06_BitmapGets.C.G from ⟨fields_Bits.con, groatlaw06_awake.con, bitmap_Get.con, groatref06_Get.con, groatref05_Halves.con, trivial⟩), fun c hc => absurd (show c ∈ ([] : List ConS) from hc) (by simp)⟩
theorem groatlaw06_BitmapGets.holds (x : Int × ByteArray × Int) (w : (Lit.int .i64 x.1).wf = true ∧ x.2.1.size ≤ 140737488351232 ∧ (Lit.int .i64 x.2.2).wf = true) : ∃ n, call groatlaw06_BitmapGets.C Try.f4 groatlaw06_BitmapGets.code groatlaw06_BitmapGets.sg groatlaw06_BitmapGets.rs n x = some true := by
  obtain ⟨s, st, a⟩ := x
  obtain ⟨l, rfl⟩ := ex_sb st
  refine ⟨0, ?_⟩
  rw [groatlaw06_BitmapGets.eq]
  simp only [groatlaw06_awake.f, Option.bind_some, not_true_eq_false, if_false, size_sb]
  by_cases c : (l.length : Int) > 500
  · rw [if_pos c]; simp
  · rw [if_neg c]
    have hl : l.length ≤ 70368744177664 := by omega
    obtain ⟨L, e1, e2, e3⟩ := groatref06_Get s l hl a
    rw [bitmap_Get s l hl a, Option.bind_some, e1, Option.bind_some, groatref05_Halves L (by omega), Option.bind_some, fields_Bits, Option.bind_some, ← e3]
    simp
end Go.Proofs.Ytnhogpbibcgpkaa.Xe
