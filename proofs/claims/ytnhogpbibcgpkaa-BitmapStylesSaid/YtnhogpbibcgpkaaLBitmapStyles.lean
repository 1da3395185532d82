/- The law on the two styles. -/
import Derived.Test.YtnhogpbibcgpkaaA06
import Derived.Test.YtnhogpbibcgpkaaNBitL
import Derived.Test.YtnhogpbibcgpkaaEr02
import Derived.Test.YtnhogpbibcgpkaaXop
namespace Go.Proofs.Ytnhogpbibcgpkaa.Xe
open Go Go.RowKit Go.Proofs.Ytnhogpbibcgpkaa.Sp
set_option linter.unusedVariables false
set_option linter.unusedSimpArgs false
set_option maxRecDepth 100000
/-! ### groatlaw06_BitmapStyles -/
@[reducible] def groatlaw06_BitmapStyles.sg : List Shp := [.v (.int .u64), .v (.int .u64)]
@[reducible] def groatlaw06_BitmapStyles.rs : Rs := .one (.v (.bool))
@[reducible] noncomputable def groatlaw06_BitmapStyles.code : Code := Try.f7.body.getD .skip
noncomputable def groatlaw06_BitmapStyles.C : Ctx := ⟨tab, [bitmap_Put.c, fields_Bits.c, groatlaw06_awake.c, fields_Set_Has.c, groatref02_Put.c], [], ⟨[], [(4, [(29, .bool)]), (6, [(4, .bool)])]⟩⟩
theorem groatlaw06_BitmapStyles.eq (n : Nat) (a0 : Int) (a1 : Int) : call groatlaw06_BitmapStyles.C Try.f7 groatlaw06_BitmapStyles.code groatlaw06_BitmapStyles.sg groatlaw06_BitmapStyles.rs n (a0, a1) =
  ((fields_Bits.f (a0, a1)).bind fun b0 =>
  ((bitmap_Put.f (1, b0)).bind fun b1 =>
  ((bitmap_Put.f (2, b0)).bind fun b2 =>
  (((((groatlaw06_awake.f ()).bind fun b3 =>
   (if ¬b3 = true then (some true)
   else (some (decide ¬Prod.snd b1 = Prod.snd b2)))) : Option Bool)).bind fun b4 =>
  (if b4 = true then (some false)
  else ((((if ¬Prod.snd b1 = 0 then ((fields_Set_Has.f (b0, 1)).bind fun b5 =>
     (if b5 = true then (some true)
     else (if Prod.snd b1 = 0 then ((groatref02_Put.f (Prod.fst b2)).bind fun b6 =>
       (if Prod.fst b1 = b6 then (if decide ((↑(ByteArray.size (Prod.fst b2)) : Int) = 16) = decide ¬a1 = 0 then (if (↑(ByteArray.size (Prod.fst b2)) : Int) = 8 then (some true)
         else (some (decide ¬a1 = 0)))
        else (some false))
       else (some false)))
      else (some false))))
    else (if Prod.snd b1 = 0 then ((groatref02_Put.f (Prod.fst b2)).bind fun b7 =>
      (if Prod.fst b1 = b7 then (if decide ((↑(ByteArray.size (Prod.fst b2)) : Int) = 16) = decide ¬a1 = 0 then (if (↑(ByteArray.size (Prod.fst b2)) : Int) = 8 then (some true)
        else (some (decide ¬a1 = 0)))
       else (some false))
      else (some false)))
     else (some false))) : Option Bool)).bind fun b8 =>
   (some (decide (b8 = true))))))))) := by kernel_rfl
theorem groatlaw06_BitmapStyles.ok : CtxOk Try.prog groatlaw06_BitmapStyles.C := ⟨AllOk.all (show AllOk groatlaw06_BitmapStyles.C.G from ⟨bitmap_Put.con, fields_Bits.con, groatlaw06_awake.con, fields_Set_Has.con, groatref02_Put.con, trivial⟩), fun c hc => absurd (show c ∈ ([] : List ConS) from hc) (by simp)⟩
theorem groatlaw06_BitmapStyles.holds (x : Int × Int) (w : (Lit.int .u64 x.1).wf = true ∧ (Lit.int .u64 x.2).wf = true) : ∃ n, call groatlaw06_BitmapStyles.C Try.f7 groatlaw06_BitmapStyles.code groatlaw06_BitmapStyles.sg groatlaw06_BitmapStyles.rs n x = some true := by
  obtain ⟨h, l⟩ := x
  obtain ⟨v1, v2⟩ := w
  have w1 := wf_u64 v1
  have w2 := wf_u64 v2
  clear v1 v2
  dsimp only at w1 w2
  obtain ⟨h, rfl⟩ := Int.eq_ofNat_of_zero_le w1.1
  obtain ⟨l, rfl⟩ := Int.eq_ofNat_of_zero_le w2.1
  have hh : h < 18446744073709551616 := by omega
  have hl : l < 18446744073709551616 := by omega
  refine ⟨0, ?_⟩
  rw [groatlaw06_BitmapStyles.eq, fields_Bits, Option.bind_some, bitmap_Put 1 h l hh hl, Option.bind_some, bitmap_Put 2 h l hh hl, Option.bind_some]
  simp only [groatlaw06_awake.f, Option.bind_some, not_true_eq_false, if_false]
  by_cases c : h < 9223372036854775808
  · rw [bitPut_ok (.inl rfl) c, bitPut_ok (.inr rfl) c]
    have hr : (bitRaw h l).length = if l = 0 then 8 else 16 := by unfold bitRaw; split <;> simp [be8_length]
    have e1 : enc8 1 (bitRaw h l) = hexPut (bitRaw h l) := rfl
    have e2 : enc8 2 (bitRaw h l) = bitRaw h l := rfl
    rw [e1, e2]
    dsimp only
    rw [groatref02_Put _ (by rw [hr]; split <;> omega)]
    simp only [Option.bind_some, size_sb, hr]
    by_cases h0 : l = 0
    · simp [h0]
    · simp [h0]
  · have n1 : ¬ (bitPut 1 h l).2 = 0 := fun e => c (bitPut_err.1 e).2
    have n2 : ¬ (bitPut 2 h l).2 = 0 := fun e => c (bitPut_err.1 e).2
    rw [bitPut_err1 n1, bitPut_err1 n2, fields_Set_Has h l hh hl, fhas_one h l hh, decide_eq_true (by omega : 9223372036854775808 ≤ h)]
    simp
end Go.Proofs.Ytnhogpbibcgpkaa.Xe
