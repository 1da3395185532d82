/- The law on what comes back. -/
import Derived.Test.YtnhogpbibcgpkaaA06
import Derived.Test.YtnhogpbibcgpkaaNBitL
import Derived.Test.YtnhogpbibcgpkaaXop
namespace Go.Proofs.Ytnhogpbibcgpkaa.Xe
open Go Go.RowKit Go.Proofs.Ytnhogpbibcgpkaa.Sp
set_option linter.unusedVariables false
set_option linter.unusedSimpArgs false
set_option maxRecDepth 100000
/-! ### groatlaw06_BitmapBack -/
@[reducible] def groatlaw06_BitmapBack.sg : List Shp := [.v (.int .i64), .a (.pair (.int .u64) (.int .u64)), .v (.str)]
@[reducible] def groatlaw06_BitmapBack.rs : Rs := .one (.v (.bool))
@[reducible] noncomputable def groatlaw06_BitmapBack.code : Code := Try.f5.body.getD .skip
noncomputable def groatlaw06_BitmapBack.C : Ctx := ⟨tab, [bitmap_Put.c, fields_Bits.c, groatlaw06_awake.c, bitmap_Get.c], [], ⟨[], []⟩⟩
theorem groatlaw06_BitmapBack.eq (n : Nat) (a0 : Int) (a1 : Int) (a2 : Int) (a3 : ByteArray) : call groatlaw06_BitmapBack.C Try.f5 groatlaw06_BitmapBack.code groatlaw06_BitmapBack.sg groatlaw06_BitmapBack.rs n (a0, ((a1, a2), a3)) =
  ((fields_Bits.f (a1, a2)).bind fun b0 =>
  ((bitmap_Put.f (a0, b0)).bind fun b1 =>
  ((groatlaw06_awake.f ()).bind fun b2 =>
  (if ¬b2 = true then ((groatlaw06_awake.f ()).bind fun b3 =>
   (some (decide (b3 = true))))
  else (if ¬Prod.snd b1 = 0 then ((groatlaw06_awake.f ()).bind fun b4 =>
    (some (decide (b4 = true))))
   else (if (↑(ByteArray.size a3) : Int) > 100 then ((groatlaw06_awake.f ()).bind fun b5 =>
     (some (decide (b5 = true))))
    else ((scat a3 (Prod.fst b1)).bind fun b6 =>
     ((scat b6 a3).bind fun b7 =>
     ((bitmap_Get.f (a0, b7, (↑(ByteArray.size a3) : Int))).bind fun b8 =>
     (if Prod.fst (Prod.fst b8) = Prod.fst b0 ∧ Prod.snd (Prod.fst b8) = Prod.snd b0 ∧ True then (if Prod.fst (Prod.snd b8) = IntKind.wrap IntKind.i64 ((↑(ByteArray.size a3) : Int) + (↑(ByteArray.size (Prod.fst b1)) : Int)) then (some (decide (Prod.snd (Prod.snd b8) = 0)))
      else (some false))
     else (some false))))))))))) := by kernel_rfl
theorem groatlaw06_BitmapBack.ok : CtxOk Try.prog groatlaw06_BitmapBack.C := ⟨AllOk.all (show AllOk groatlaw06_BitmapBack.C.G from ⟨bitmap_Put.con, fields_Bits.con, groatlaw06_awake.con, bitmap_Get.con, trivial⟩), fun c hc => absurd (show c ∈ ([] : List ConS) from hc) (by simp)⟩
theorem groatlaw06_BitmapBack.holds (x : Int × (Int × Int) × ByteArray) (w : (Lit.int .i64 x.1).wf = true ∧ ((Lit.int .u64 x.2.1.1).wf = true ∧ (Lit.int .u64 x.2.1.2).wf = true) ∧ x.2.2.size ≤ 140737488351232) : ∃ n, call groatlaw06_BitmapBack.C Try.f5 groatlaw06_BitmapBack.code groatlaw06_BitmapBack.sg groatlaw06_BitmapBack.rs n x = some true := by
  obtain ⟨s, ⟨h, l⟩, st⟩ := x
  obtain ⟨p, rfl⟩ := ex_sb st
  obtain ⟨-, ⟨v1, v2⟩, -⟩ := w
  have w1 := wf_u64 v1
  have w2 := wf_u64 v2
  clear v1 v2
  dsimp only at w1 w2
  obtain ⟨h, rfl⟩ := Int.eq_ofNat_of_zero_le w1.1
  obtain ⟨l, rfl⟩ := Int.eq_ofNat_of_zero_le w2.1
  have hh : h < 18446744073709551616 := by omega
  have hl : l < 18446744073709551616 := by omega
  refine ⟨0, ?_⟩
  rw [groatlaw06_BitmapBack.eq, fields_Bits, Option.bind_some, bitmap_Put s h l hh hl, Option.bind_some]
  simp only [groatlaw06_awake.f, Option.bind_some, not_true_eq_false, if_false, size_sb]
  by_cases c : (bitPut s h l).2 = 0
  · rw [if_neg (show ¬ ¬ (bitPut s h l).2 = 0 from fun e => e c)]
    by_cases c2 : (p.length : Int) > 100
    · rw [if_pos c2]; simp
    · rw [if_neg c2]
      obtain ⟨k, hs⟩ := bitPut_err.1 c
      have e := bitPut_ok (l := l) k hs
      have g := bitGet_put k hs hl p p
      rw [e]
      dsimp only
      have hlen : (enc8 s (bitRaw h l)).length ≤ 32 := by
        rw [enc8_length]
        have : (bitRaw h l).length ≤ 16 := by unfold bitRaw; split <;> simp [be8_length]
        split <;> omega
      generalize enc8 s (bitRaw h l) = q at *
      rw [scat_sb _ _ (by omega), Option.bind_some, scat_sb _ _ (by rw [List.length_append]; omega), Option.bind_some, List.append_assoc, bitmap_Get s _ (by rw [List.length_append, List.length_append]; omega) _, Option.bind_some, g, wrap_id (by omega) (by omega)]
      simp
  · rw [if_pos c]; simp
end Go.Proofs.Ytnhogpbibcgpkaa.Xe
