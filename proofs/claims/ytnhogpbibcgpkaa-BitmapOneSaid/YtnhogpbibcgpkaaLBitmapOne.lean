/- The law on one form for one set. -/
import Derived.Test.YtnhogpbibcgpkaaA06
import Derived.Test.YtnhogpbibcgpkaaNBitL
import Derived.Test.YtnhogpbibcgpkaaXop
namespace Go.Proofs.Ytnhogpbibcgpkaa.Xe
open Go Go.RowKit Go.Proofs.Ytnhogpbibcgpkaa.Sp
set_option linter.unusedVariables false
set_option linter.unusedSimpArgs false
set_option maxRecDepth 100000
/-! ### groatlaw06_BitmapOne -/
@[reducible] def groatlaw06_BitmapOne.sg : List Shp := [.v (.int .i64), .v (.str)]
@[reducible] def groatlaw06_BitmapOne.rs : Rs := .one (.v (.bool))
@[reducible] noncomputable def groatlaw06_BitmapOne.code : Code := Try.f6.body.getD .skip
noncomputable def groatlaw06_BitmapOne.C : Ctx := ⟨tab, [bitmap_Put.c, groatlaw06_awake.c, bitmap_Get.c], [], ⟨[], []⟩⟩
theorem groatlaw06_BitmapOne.eq (n : Nat) (a0 : Int) (a1 : ByteArray) : call groatlaw06_BitmapOne.C Try.f6 groatlaw06_BitmapOne.code groatlaw06_BitmapOne.sg groatlaw06_BitmapOne.rs n (a0, a1) =
  ((groatlaw06_awake.f ()).bind fun b0 =>
  (if ¬b0 = true then ((groatlaw06_awake.f ()).bind fun b1 =>
   (some (decide (b1 = true))))
  else (if (↑(ByteArray.size a1) : Int) > 500 then ((groatlaw06_awake.f ()).bind fun b2 =>
    (some (decide (b2 = true))))
   else ((bitmap_Get.f (a0, a1, 0)).bind fun b3 =>
    (if ¬Prod.snd (Prod.snd b3) = 0 then (if Prod.fst (Prod.fst b3) = 0 ∧ Prod.snd (Prod.fst b3) = 0 ∧ True then (some (decide (Prod.fst (Prod.snd b3) = 0)))
     else (some false))
    else ((bitmap_Put.f (a0, Prod.fst b3)).bind fun b4 =>
     (if Prod.snd b4 = 0 then (if Prod.fst (Prod.snd b3) ≥ 0 then (if Prod.fst (Prod.snd b3) ≤ (↑(ByteArray.size a1) : Int) then ((ssub a1 0 (Prod.fst (Prod.snd b3))).bind fun b5 =>
        (some (decide (Prod.fst b4 = b5))))
       else (some false))
      else (some false))
     else (some false)))))))) := by kernel_rfl
theorem groatlaw06_BitmapOne.ok : CtxOk Try.prog groatlaw06_BitmapOne.C := ⟨AllOk.all (show AllOk groatlaw06_BitmapOne.C.G from ⟨bitmap_Put.con, groatlaw06_awake.con, bitmap_Get.con, trivial⟩), fun c hc => absurd (show c ∈ ([] : List ConS) from hc) (by simp)⟩
theorem groatlaw06_BitmapOne.holds (x : Int × ByteArray) (w : (Lit.int .i64 x.1).wf = true ∧ x.2.size ≤ 140737488351232) : ∃ n, call groatlaw06_BitmapOne.C Try.f6 groatlaw06_BitmapOne.code groatlaw06_BitmapOne.sg groatlaw06_BitmapOne.rs n x = some true := by
  obtain ⟨s, st⟩ := x
  obtain ⟨l, rfl⟩ := ex_sb st
  refine ⟨0, ?_⟩
  rw [groatlaw06_BitmapOne.eq]
  simp only [groatlaw06_awake.f, Option.bind_some, not_true_eq_false, if_false, size_sb]
  by_cases c : (l.length : Int) > 500
  · rw [if_pos c]; simp
  · rw [if_neg c, bitmap_Get s l (by omega) 0, Option.bind_some]
    by_cases c2 : (bitGet s l 0).2.2 = 0
    · rw [if_neg (show ¬ ¬ (bitGet s l 0).2.2 = 0 from fun e => e c2)]
      obtain ⟨k, -, -, h1, h2, h3, -, h4⟩ := bitGet_ok c2
      generalize bitGet s l 0 = G at *
      obtain ⟨⟨h, u⟩, n, e⟩ := G
      dsimp only at *
      have h4 : (l.drop 0).take (n - 0) = enc8 s (bitRaw h u) := h4
      rw [bitmap_Put s h u (by omega) h2, Option.bind_some, bitPut_ok k h1]
      have z := ssub_sb l 0 n (by omega) h3
      have z : ssub (sb l) 0 (n : Int) = _ := z
      dsimp only
      have z0 : (n : Int) ≥ 0 := by omega
      have z1 : (n : Int) ≤ (l.length : Int) := by omega
      rw [if_pos rfl, if_pos z0, if_pos z1, z, Option.bind_some, List.drop_zero, ← h4, List.drop_zero, Nat.sub_zero]
      simp
    · rw [if_pos (show ¬ (bitGet s l 0).2.2 = 0 from c2)]
      obtain ⟨e1, e2⟩ := bitGet_err c2
      rw [e1, e2]; rfl
end Go.Proofs.Ytnhogpbibcgpkaa.Xe
