/- What the program's cell.Put answers. -/
import Derived.Test.YtkaihbkfobiejaaGreatDoorEgd
import Derived.Test.YtkaihbkfobiejaaGreatDoorEgb
import Derived.Test.YtkaihbkfobiejaaGreatDoorEhx
import Derived.Test.YtkaihbkfobiejaaGreatDoorNgc
namespace Go.Proofs.YtkaihbkfobiejaaGreatDoor.Xe
open Go Go.RowKit Go.Proofs.YtkaihbkfobiejaaGreatDoor.Sp
set_option linter.unusedVariables false
set_option linter.unusedSimpArgs false
set_option maxRecDepth 100000
theorem hexa_Put' (l : List UInt8) (hl : l.length ≤ 999) : hexa_Put.f (sb l) = some (sb (hexPut l)) := hexa_Put l (by omega)
theorem scat_nil (l : List UInt8) (hl : l.length ≤ 9223372036854775807) : scat (ByteArray.mk #[]) (sb l) = some (sb l) := by
  rw [show ByteArray.mk #[] = sb [] from rfl, scat_sb _ _ (by simpa using hl)]; rfl
/-- What a text is put as. -/
noncomputable def cellTailP (st c : Int) (h x : ByteArray) : Option (ByteArray × Int) := (cell_how.f (st, c)).bind fun b3 =>
  if b3 = 1 then (bcd_Put.f x).bind fun b4 => (scat h (Prod.fst b4)).bind fun b5 => some (b5, 0)
  else if b3 = 2 then (hexa_Put.f x).bind fun b6 => (scat h b6).bind fun b7 => some (b7, 0)
  else (scat h x).bind fun b8 => some (b8, 0)
theorem cellTailP_eq (st c : Int) (h l : List UInt8) (hh : h.length ≤ 1000) (hl : l.length ≤ 999) : cellTailP st c (sb h) (sb l) = some (sb (h ++ cellBody (cellHow st c) l), 0) := by
  have hb := body_length st c l hl
  unfold cellTailP
  rw [show cell_how.f (st, c) = some (cellHow st c) from cell_how st c, Option.bind_some]
  unfold cellBody at hb ⊢
  by_cases c1 : cellHow st c = 1
  · rw [if_pos c1] at hb ⊢
    rw [if_pos c1, bcd_Put, Option.bind_some, scat_sb _ _ (by omega)]; rfl
  · rw [if_neg c1] at hb ⊢
    rw [if_neg c1]
    by_cases c2 : cellHow st c = 2
    · rw [if_pos c2] at hb ⊢
      rw [if_pos c2, hexa_Put' l hl, Option.bind_some, scat_sb _ _ (by omega)]; rfl
    · rw [if_neg c2, if_neg c2, scat_sb _ _ (by omega)]; rfl
/-! ### cell_Put -/
@[reducible] def cell_Put.sg : List Shp := [.v (.int .i64), .a (.pair (.int .i64) (.pair (.int .i64) (.pair (.int .i64) (.pair (.int .i64) (.int .i64))))), .v (.str)]
@[reducible] def cell_Put.rs : Rs := .tup [.v (.str), .v (.int .i64)]
@[reducible] noncomputable def cell_Put.code : Code := Tryz.f41.body.getD .skip
noncomputable def cell_Put.C : Ctx := ⟨tab, [bcd_Put.c, cell_known.c, spec_Value.c, prefix_Put.c, cell_how.c, hexa_Put.c], [], ⟨[], []⟩⟩
theorem cell_Put.eq (n : Nat) (a0 : Int) (a1 : Int) (a2 : Int) (a3 : Int) (a4 : Int) (a5 : Int) (a6 : ByteArray) : call cell_Put.C Tryz.f41 cell_Put.code cell_Put.sg cell_Put.rs n (a0, ((a1, (a2, (a3, (a4, a5)))), a6)) =
  ((cell_known.f a0).bind fun b0 =>
  (if ¬b0 = true then (some ((ByteArray.mk #[], 1)))
  else ((spec_Value.f ((a1, a2, a3, a4, a5), a6)).bind fun b1 =>
   (if ¬b1 = 0 then (some ((ByteArray.mk #[], b1)))
   else (if ¬a3 = 1 then ((prefix_Put.f (a0, a3, (↑(ByteArray.size a6) : Int))).bind fun b2 =>
     ((cell_how.f (a0, a2)).bind fun b3 =>
     (if b3 = 1 then ((bcd_Put.f a6).bind fun b4 =>
      ((scat (Prod.fst b2) (Prod.fst b4)).bind fun b5 =>
      (some ((b5, 0)))))
     else (if b3 = 2 then ((hexa_Put.f a6).bind fun b6 =>
       ((scat (Prod.fst b2) b6).bind fun b7 =>
       (some ((b7, 0)))))
      else ((scat (Prod.fst b2) a6).bind fun b8 =>
       (some ((b8, 0))))))))
    else ((cell_how.f (a0, a2)).bind fun b9 =>
     (if b9 = 1 then ((bcd_Put.f a6).bind fun b10 =>
      ((scat (ByteArray.mk #[]) (Prod.fst b10)).bind fun b11 =>
      (some ((b11, 0)))))
     else (if b9 = 2 then ((hexa_Put.f a6).bind fun b12 =>
       ((scat (ByteArray.mk #[]) b12).bind fun b13 =>
       (some ((b13, 0)))))
      else ((scat (ByteArray.mk #[]) a6).bind fun b14 =>
       (some ((b14, 0)))))))))))) := by kernel_rfl
noncomputable def cell_Put.f : El (sgTy cell_Put.sg) → Option (El cell_Put.rs.ty) := fun x => match x with
  | (a0, ((a1, (a2, (a3, (a4, a5)))), a6)) =>
  ((cell_known.f a0).bind fun b0 =>
  (if ¬b0 = true then (some ((ByteArray.mk #[], 1)))
  else ((spec_Value.f ((a1, a2, a3, a4, a5), a6)).bind fun b1 =>
   (if ¬b1 = 0 then (some ((ByteArray.mk #[], b1)))
   else (if ¬a3 = 1 then ((prefix_Put.f (a0, a3, (↑(ByteArray.size a6) : Int))).bind fun b2 =>
     ((cell_how.f (a0, a2)).bind fun b3 =>
     (if b3 = 1 then ((bcd_Put.f a6).bind fun b4 =>
      ((scat (Prod.fst b2) (Prod.fst b4)).bind fun b5 =>
      (some ((b5, 0)))))
     else (if b3 = 2 then ((hexa_Put.f a6).bind fun b6 =>
       ((scat (Prod.fst b2) b6).bind fun b7 =>
       (some ((b7, 0)))))
      else ((scat (Prod.fst b2) a6).bind fun b8 =>
       (some ((b8, 0))))))))
    else ((cell_how.f (a0, a2)).bind fun b9 =>
     (if b9 = 1 then ((bcd_Put.f a6).bind fun b10 =>
      ((scat (ByteArray.mk #[]) (Prod.fst b10)).bind fun b11 =>
      (some ((b11, 0)))))
     else (if b9 = 2 then ((hexa_Put.f a6).bind fun b12 =>
       ((scat (ByteArray.mk #[]) b12).bind fun b13 =>
       (some ((b13, 0)))))
      else ((scat (ByteArray.mk #[]) a6).bind fun b14 =>
       (some ((b14, 0))))))))))))
noncomputable def cell_Put.c : Con := ⟨41, cell_Put.sg, cell_Put.rs, cell_Put.f⟩
theorem cell_Put.con : ConOk Tryz.prog cell_Put.c := walked (C := cell_Put.C) rfl (by kernel_rfl) (by kernel_rfl) (by kernel_rfl) rfl ⟨bcd_Put.con, cell_known.con, spec_Value.con, prefix_Put.con, cell_how.con, hexa_Put.con, trivial⟩ fun ⟨a0, ⟨⟨a1, ⟨a2, ⟨a3, ⟨a4, a5⟩⟩⟩⟩, a6⟩⟩ y h => ⟨0, (cell_Put.eq 0 a0 a1 a2 a3 a4 a5 a6).trans h⟩
theorem cell_Put (st no c fo mi ma : Int) (l : List UInt8) (hl : l.length ≤ 1000000000000) : cell_Put.f (st, (no, c, fo, mi, ma), sb l) = some (sb (cellPut st no c fo mi ma l).1, (cellPut st no c fo mi ma l).2) := by
  simp only [cell_Put.f]
  rw [cell_known, Option.bind_some, spec_Value no c fo mi ma l hl, Option.bind_some]
  unfold cellPut
  by_cases k1 : st = 1 ∨ st = 2
  · rw [decide_eq_true k1, if_neg (not_not_intro rfl), if_neg (not_not_intro k1)]
    by_cases k2 : specV no c fo mi ma l = 0
    · have h9 := specV_len k2
      have hf := (specE_zero (specV_zero k2).1).2.2.1
      have hh := head_length st fo l.length hf
      rw [if_neg (not_not_intro k2), if_neg (not_not_intro k2), size_sb]
      unfold cellHead at hh ⊢
      by_cases k3 : fo = 1
      · rw [if_neg (not_not_intro k3), if_pos k3]
        exact cellTailP_eq st c [] l (by simp) h9
      · rw [if_neg k3] at hh
        rw [if_pos k3, if_neg k3, prefix_Put st fo (l.length : Int) (by omega) (by omega), Option.bind_some]
        exact cellTailP_eq st c _ l hh h9
    · rw [if_pos k2, if_pos k2]; rfl
  · rw [decide_eq_false k1, if_pos (by simp), if_pos k1]; rfl
end Go.Proofs.YtkaihbkfobiejaaGreatDoor.Xe
