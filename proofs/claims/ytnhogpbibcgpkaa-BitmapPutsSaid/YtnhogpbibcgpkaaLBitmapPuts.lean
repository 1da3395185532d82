/- The law on what is put. -/
import Derived.Test.YtnhogpbibcgpkaaA06
import Derived.Test.YtnhogpbibcgpkaaEr06g
import Derived.Test.YtnhogpbibcgpkaaXop
namespace Go.Proofs.Ytnhogpbibcgpkaa.Xe
open Go Go.RowKit Go.Proofs.Ytnhogpbibcgpkaa.Sp
set_option linter.unusedVariables false
set_option linter.unusedSimpArgs false
set_option maxRecDepth 100000
/-! ### groatlaw06_BitmapPuts -/
@[reducible] def groatlaw06_BitmapPuts.sg : List Shp := [.v (.int .i64), .v (.int .u64), .v (.int .u64)]
@[reducible] def groatlaw06_BitmapPuts.rs : Rs := .one (.v (.bool))
@[reducible] noncomputable def groatlaw06_BitmapPuts.code : Code := Try.f3.body.getD .skip
noncomputable def groatlaw06_BitmapPuts.C : Ctx := ⟨tab, [bitmap_Put.c, fields_Bits.c, groatref06_Put.c, groatref05_List.c, groatlaw06_awake.c], [], ⟨[], []⟩⟩
theorem groatlaw06_BitmapPuts.eq (n : Nat) (a0 : Int) (a1 : Int) (a2 : Int) : call groatlaw06_BitmapPuts.C Try.f3 groatlaw06_BitmapPuts.code groatlaw06_BitmapPuts.sg groatlaw06_BitmapPuts.rs n (a0, (a1, a2)) =
  ((fields_Bits.f (a1, a2)).bind fun b0 =>
  ((bitmap_Put.f (a0, b0)).bind fun b1 =>
  ((groatref05_List.f (a1, a2)).bind fun b2 =>
  ((groatref06_Put.f (a0, b2)).bind fun b3 =>
  ((groatlaw06_awake.f ()).bind fun b4 =>
  (if ¬b4 = true then ((groatlaw06_awake.f ()).bind fun b5 =>
   (if b5 = true then (if Prod.fst b1 = ByteArray.mk #[] then (some (decide (Prod.snd b1 = 1)))
    else (some false))
   else (some false)))
  else (if ¬Prod.snd b3 = true then ((groatlaw06_awake.f ()).bind fun b6 =>
    (if b6 = true then (if Prod.fst b1 = ByteArray.mk #[] then (some (decide (Prod.snd b1 = 1)))
     else (some false))
    else (some false)))
   else (if Prod.fst b1 = Prod.fst b3 then (some (decide (Prod.snd b1 = 0)))
    else (some false))))))))) := by kernel_rfl
theorem groatlaw06_BitmapPuts.ok : CtxOk Try.prog groatlaw06_BitmapPuts.C := ⟨AllOk.all (show AllOk groatlaw06_BitmapPuts.C.G from ⟨bitmap_Put.con, fields_Bits.con, groatref06_Put.con, groatref05_List.con, groatlaw06_awake.con, trivial⟩), fun c hc => absurd (show c ∈ ([] : List ConS) from hc) (by simp)⟩
theorem groatlaw06_BitmapPuts.holds (x : Int × Int × Int) (w : (Lit.int .i64 x.1).wf = true ∧ (Lit.int .u64 x.2.1).wf = true ∧ (Lit.int .u64 x.2.2).wf = true) : ∃ n, call groatlaw06_BitmapPuts.C Try.f3 groatlaw06_BitmapPuts.code groatlaw06_BitmapPuts.sg groatlaw06_BitmapPuts.rs n x = some true := by
  obtain ⟨s, h, l⟩ := x
  obtain ⟨-, v1, v2⟩ := w
  have w1 := wf_u64 v1
  have w2 := wf_u64 v2
  clear v1 v2
  dsimp only at w1 w2
  obtain ⟨h, rfl⟩ := Int.eq_ofNat_of_zero_le w1.1
  obtain ⟨l, rfl⟩ := Int.eq_ofNat_of_zero_le w2.1
  have hh : h < 18446744073709551616 := by omega
  have hl : l < 18446744073709551616 := by omega
  refine ⟨0, ?_⟩
  have hL : (flst h l).length ≤ 128 := lst_length _ _ _
  rw [groatlaw06_BitmapPuts.eq, fields_Bits, Option.bind_some, bitmap_Put s h l hh hl, Option.bind_some, groatref05_List h l hh hl, Option.bind_some, groatref06_Put s _ (by omega), Option.bind_some, refPut_eq s h l hh hl]
  simp only [groatlaw06_awake.f, Option.bind_some, not_true_eq_false, if_false]
  by_cases c : (bitPut s h l).2 = 0
  · simp [c]
  · have := bitPut_err1 c
    simp [this, empty_sb]
end Go.Proofs.Ytnhogpbibcgpkaa.Xe
