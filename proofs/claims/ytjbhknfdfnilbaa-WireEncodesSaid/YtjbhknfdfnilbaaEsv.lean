/- What the program's check of a spec's value answers. -/
import Derived.Test.YtjbhknfdfnilbaaNgc
import Derived.Test.YtjbhknfdfnilbaaEsp
import Derived.Test.YtjbhknfdfnilbaaEtv
namespace Go.Proofs.Ytjbhknfdfnilbaa.Xe
open Go Go.RowKit Go.Proofs.Ytjbhknfdfnilbaa.Sp
set_option linter.unusedVariables false
set_option linter.unusedSimpArgs false
set_option maxRecDepth 100000
theorem spec_Check (no c fo mi ma : Int) : spec_Check.f (no, c, fo, mi, ma) = some (specE no c fo mi ma) := rfl
/-! ### spec_Value -/
@[reducible] def spec_Value.sg : List Shp := [.a (.pair (.int .i64) (.pair (.int .i64) (.pair (.int .i64) (.pair (.int .i64) (.int .i64))))), .v (.str)]
@[reducible] def spec_Value.rs : Rs := .one (.v (.int .i64))
@[reducible] noncomputable def spec_Value.code : Code := Try.f54.body.getD .skip
noncomputable def spec_Value.C : Ctx := ⟨tab, [spec_Check.c, class_First.c, tlv_Get.c], [], ⟨[], []⟩⟩
theorem spec_Value.eq (n : Nat) (a0 : Int) (a1 : Int) (a2 : Int) (a3 : Int) (a4 : Int) (a5 : ByteArray) : call spec_Value.C Try.f54 spec_Value.code spec_Value.sg spec_Value.rs n ((a0, (a1, (a2, (a3, a4)))), a5) =
  ((spec_Check.f (a0, a1, a2, a3, a4)).bind fun b0 =>
  (if ¬b0 = 0 then (some 1)
  else (if (↑(ByteArray.size a5) : Int) < a3 then (some 5)
   else (if (↑(ByteArray.size a5) : Int) > a4 then (some 5)
    else ((class_First.f (a1, a5)).bind fun b1 =>
     (if b1 ≥ 0 then (some 6)
     else (if a1 = 6 then ((tlv_Get.f a5).bind fun b2 =>
       (if ¬Prod.fst (Prod.snd b2) = 0 then (some 13)
       else (some 0)))
      else (some 0)))))))) := by kernel_rfl
noncomputable def spec_Value.f : El (sgTy spec_Value.sg) → Option (El spec_Value.rs.ty) := fun x => match x with
  | ((a0, (a1, (a2, (a3, a4)))), a5) =>
  ((spec_Check.f (a0, a1, a2, a3, a4)).bind fun b0 =>
  (if ¬b0 = 0 then (some 1)
  else (if (↑(ByteArray.size a5) : Int) < a3 then (some 5)
   else (if (↑(ByteArray.size a5) : Int) > a4 then (some 5)
    else ((class_First.f (a1, a5)).bind fun b1 =>
     (if b1 ≥ 0 then (some 6)
     else (if a1 = 6 then ((tlv_Get.f a5).bind fun b2 =>
       (if ¬Prod.fst (Prod.snd b2) = 0 then (some 13)
       else (some 0)))
      else (some 0))))))))
noncomputable def spec_Value.c : Con := ⟨54, spec_Value.sg, spec_Value.rs, spec_Value.f⟩
theorem spec_Value.con : ConOk Try.prog spec_Value.c := walked (C := spec_Value.C) rfl (by kernel_rfl) (by kernel_rfl) (by kernel_rfl) rfl ⟨spec_Check.con, class_First.con, tlv_Get.con, trivial⟩ fun ⟨⟨a0, ⟨a1, ⟨a2, ⟨a3, a4⟩⟩⟩⟩, a5⟩ y h => ⟨0, (spec_Value.eq 0 a0 a1 a2 a3 a4 a5).trans h⟩
theorem spec_Value (no c fo mi ma : Int) (l : List UInt8) (hl : l.length ≤ 1000000000000) : spec_Value.f ((no, c, fo, mi, ma), sb l) = some (specV no c fo mi ma l) := by
  have e : (tlvG (l.length + 1) l 0 []).2.1 = tlvErr l := rfl
  have g := first_ge (inC c) l 0
  have k : class_First.f (c, sb l) = some (firstFrom (inC c) 0 l) := by
    unfold class_First.f
    rw [if_pos (by rw [size_sb]; omega)]; rfl
  simp only [spec_Value.f]
  rw [spec_Check, Option.bind_some, specV, size_sb]
  by_cases h1 : specE no c fo mi ma = 0
  · rw [if_neg (not_not_intro h1), if_neg (not_not_intro h1)]
    by_cases h2 : (l.length : Int) < mi
    · rw [if_pos h2, if_pos (.inl h2)]
    rw [if_neg h2]
    by_cases h3 : (l.length : Int) > ma
    · rw [if_pos h3, if_pos (.inr h3)]
    rw [if_neg h3, if_neg (show ¬ ((l.length : Int) < mi ∨ ma < (l.length : Int)) by omega), k, Option.bind_some]
    by_cases h4 : l.all (inC c) = false
    · rw [if_pos (g.2 h4), if_pos h4]
    rw [if_neg (fun e => h4 (g.1 e)), if_neg h4]
    by_cases h5 : c = 6
    · rw [if_pos h5, tlv_Get l hl, Option.bind_some, e]
      by_cases h6 : tlvErr l = 0
      · rw [if_neg (not_not_intro h6), if_neg (fun q => q.2 h6)]
      · rw [if_pos h6, if_pos ⟨h5, h6⟩]
    · rw [if_neg h5, if_neg (fun q => h5 q.1)]
  · rw [if_pos h1, if_pos h1]
end Go.Proofs.Ytjbhknfdfnilbaa.Xe
