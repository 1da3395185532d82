/- What the reference's Put on lengths and on fields answers, and on types. -/
import Derived.Test.YtjbhknfdfnilbaaEr03p
import Derived.Test.YtjbhknfdfnilbaaEr11
import Derived.Test.YtjbhknfdfnilbaaEr15
import Derived.Test.YtjbhknfdfnilbaaEr02
import Derived.Test.YtjbhknfdfnilbaaNgf
namespace Go.Proofs.Ytjbhknfdfnilbaa.Xe
open Go Go.RowKit Go.Proofs.Ytjbhknfdfnilbaa.Sp
set_option linter.unusedVariables false
set_option linter.unusedSimpArgs false
set_option maxRecDepth 100000
/-! ### groatref07_Width -/
@[reducible] def groatref07_Width.sg : List Shp := [.v (.int .i64)]
@[reducible] def groatref07_Width.rs : Rs := .one (.v (.int .i64))
@[reducible] noncomputable def groatref07_Width.code : Code := Try.f113.body.getD .skip
noncomputable def groatref07_Width.C : Ctx := ⟨tab, [], [], ⟨[], []⟩⟩
theorem groatref07_Width.eq (n : Nat) (a0 : Int) : call groatref07_Width.C Try.f113 groatref07_Width.code groatref07_Width.sg groatref07_Width.rs n a0 =
  (if a0 = 2 then (some a0)
  else (if a0 = 3 then (some a0)
   else (some 0))) := by kernel_rfl
noncomputable def groatref07_Width.f : El (sgTy groatref07_Width.sg) → Option (El groatref07_Width.rs.ty) := fun x => match x with
  | a0 =>
  (if a0 = 2 then (some a0)
  else (if a0 = 3 then (some a0)
   else (some 0)))
noncomputable def groatref07_Width.c : Con := ⟨113, groatref07_Width.sg, groatref07_Width.rs, groatref07_Width.f⟩
theorem groatref07_Width.con : ConOk Try.prog groatref07_Width.c := walked (C := groatref07_Width.C) rfl (by kernel_rfl) (by kernel_rfl) (by kernel_rfl) rfl trivial fun a0 y h => ⟨0, (groatref07_Width.eq 0 a0).trans h⟩
theorem groatref07_Width (f : Int) : groatref07_Width.f f = some (if f = 2 ∨ f = 3 then f else 0) := by
  simp only [groatref07_Width.f]
  by_cases h : f = 2
  · rw [if_pos h, if_pos (.inl h)]
  · rw [if_neg h]
    by_cases h' : f = 3
    · rw [if_pos h', if_pos (.inr h')]
    · rw [if_neg h', if_neg (show ¬ (f = 2 ∨ f = 3) from fun e => e.elim h h')]
/-! ### groatref07_Put -/
@[reducible] def groatref07_Put.sg : List Shp := [.v (.int .i64), .v (.int .i64), .v (.int .i64)]
@[reducible] def groatref07_Put.rs : Rs := .tup [.v (.str), .v (.int .i64)]
@[reducible] noncomputable def groatref07_Put.code : Code := Try.f89.body.getD .skip
noncomputable def groatref07_Put.C : Ctx := ⟨tab, [groatref03_Put.c, groatref07_Width.c, groatref01_Put.c], [], ⟨[], []⟩⟩
theorem groatref07_Put.eq (n : Nat) (a0 : Int) (a1 : Int) (a2 : Int) : call groatref07_Put.C Try.f89 groatref07_Put.code groatref07_Put.sg groatref07_Put.rs n (a0, (a1, a2)) =
  (if ¬a0 = 1 then (if ¬a0 = 2 then (some ((ByteArray.mk #[], 1)))
   else ((groatref07_Width.f a1).bind fun b0 =>
    (if b0 = 0 then (some ((ByteArray.mk #[], 1)))
    else ((groatref01_Put.f (a2, a1)).bind fun b1 =>
     (if ¬Prod.snd b1 = true then (some ((ByteArray.mk #[], 5)))
     else (if a0 = 2 then ((groatref03_Put.f (Prod.fst b1)).bind fun b2 =>
       (some ((Prod.fst b2, 0))))
      else (some ((Prod.fst b1, 0)))))))))
  else ((groatref07_Width.f a1).bind fun b3 =>
   (if b3 = 0 then (some ((ByteArray.mk #[], 1)))
   else ((groatref01_Put.f (a2, a1)).bind fun b4 =>
    (if ¬Prod.snd b4 = true then (some ((ByteArray.mk #[], 5)))
    else (if a0 = 2 then ((groatref03_Put.f (Prod.fst b4)).bind fun b5 =>
      (some ((Prod.fst b5, 0))))
     else (some ((Prod.fst b4, 0))))))))) := by kernel_rfl
noncomputable def groatref07_Put.f : El (sgTy groatref07_Put.sg) → Option (El groatref07_Put.rs.ty) := fun x => match x with
  | (a0, (a1, a2)) =>
  (if ¬a0 = 1 then (if ¬a0 = 2 then (some ((ByteArray.mk #[], 1)))
   else ((groatref07_Width.f a1).bind fun b0 =>
    (if b0 = 0 then (some ((ByteArray.mk #[], 1)))
    else ((groatref01_Put.f (a2, a1)).bind fun b1 =>
     (if ¬Prod.snd b1 = true then (some ((ByteArray.mk #[], 5)))
     else (if a0 = 2 then ((groatref03_Put.f (Prod.fst b1)).bind fun b2 =>
       (some ((Prod.fst b2, 0))))
      else (some ((Prod.fst b1, 0)))))))))
  else ((groatref07_Width.f a1).bind fun b3 =>
   (if b3 = 0 then (some ((ByteArray.mk #[], 1)))
   else ((groatref01_Put.f (a2, a1)).bind fun b4 =>
    (if ¬Prod.snd b4 = true then (some ((ByteArray.mk #[], 5)))
    else (if a0 = 2 then ((groatref03_Put.f (Prod.fst b4)).bind fun b5 =>
      (some ((Prod.fst b5, 0))))
     else (some ((Prod.fst b4, 0)))))))))
noncomputable def groatref07_Put.c : Con := ⟨89, groatref07_Put.sg, groatref07_Put.rs, groatref07_Put.f⟩
theorem groatref07_Put.con : ConOk Try.prog groatref07_Put.c := walked (C := groatref07_Put.C) rfl (by kernel_rfl) (by kernel_rfl) (by kernel_rfl) rfl ⟨groatref03_Put.con, groatref07_Width.con, groatref01_Put.con, trivial⟩ fun ⟨a0, ⟨a1, a2⟩⟩ y h => ⟨0, (groatref07_Put.eq 0 a0 a1 a2).trans h⟩
theorem groatref07_Put (s f n : Int) (hs : s = 1 ∨ s = 2) (h1 : -9223372036854775808 ≤ n) (h2 : n ≤ 9223372036854775807) : groatref07_Put.f (s, f, n) = some (sb (prePut s f n).1, (prePut s f n).2) := by
  simp only [groatref07_Put.f]
  rw [groatref07_Width, Option.bind_some]
  unfold prePut
  by_cases hf : f = 2 ∨ f = 3
  · have hk : preOk s f = true := decide_eq_true ⟨hs, hf⟩
    have hp : groatref01_Put.f (n, f) = some (putNum n f) := if_pos ⟨h1, h2⟩
    have hl : (bl (putNum n f).1).length ≤ 140737488351232 := by
      unfold putNum
      split
      · show (0 : Nat) ≤ _; omega
      · rw [bl_sb, digs_length]; omega
    have hb := groatref03_Put (bl (putNum n f).1) hl
    rw [sb_bl] at hb
    rw [if_pos hf, if_neg (show ¬ f = 0 by omega), hp, Option.bind_some, hb, Option.bind_some, if_pos hk]
    by_cases c2 : (putNum n f).2 = true
    · rw [if_neg (not_not_intro c2), if_pos c2]
      rcases hs with rfl | rfl
      · rw [if_neg (by decide), if_neg (by decide), if_neg (by decide), sb_bl]
      · rw [if_pos (by decide), if_neg (by decide), if_pos rfl, if_pos rfl]
    · rw [if_pos c2, if_neg c2]
      rcases hs with rfl | rfl
      · rw [if_neg (by decide)]; rfl
      · rw [if_pos (by decide), if_neg (by decide)]; rfl
  · rw [if_neg hf, if_pos rfl, if_neg (show ¬ preOk s f = true from fun q => hf (preOk_iff q).2)]
    rcases hs with rfl | rfl
    · rw [if_neg (by decide)]; rfl
    · rw [if_pos (by decide), if_neg (by decide)]; rfl
/-! ### groatref12_content -/
@[reducible] def groatref12_content.sg : List Shp := [.v (.int .i64), .v (.int .i64), .v (.str)]
@[reducible] def groatref12_content.rs : Rs := .one (.v (.str))
@[reducible] noncomputable def groatref12_content.code : Code := Try.f90.body.getD .skip
noncomputable def groatref12_content.C : Ctx := ⟨tab, [groatref03_Put.c, groatref02_Put.c], [], ⟨[], []⟩⟩
theorem groatref12_content.eq (n : Nat) (a0 : Int) (a1 : Int) (a2 : ByteArray) : call groatref12_content.C Try.f90 groatref12_content.code groatref12_content.sg groatref12_content.rs n (a0, (a1, a2)) =
  (if a0 = 2 then (if a1 = 1 then ((groatref03_Put.f a2).bind fun b0 =>
    (some (Prod.fst b0)))
   else (if a0 = 1 then (if a1 ≥ 5 then ((groatref02_Put.f a2).bind fun b1 =>
      (some b1))
     else (some a2))
    else (some a2)))
  else (if a0 = 1 then (if a1 ≥ 5 then ((groatref02_Put.f a2).bind fun b2 =>
     (some b2))
    else (some a2))
   else (some a2))) := by kernel_rfl
noncomputable def groatref12_content.f : El (sgTy groatref12_content.sg) → Option (El groatref12_content.rs.ty) := fun x => match x with
  | (a0, (a1, a2)) =>
  (if a0 = 2 then (if a1 = 1 then ((groatref03_Put.f a2).bind fun b0 =>
    (some (Prod.fst b0)))
   else (if a0 = 1 then (if a1 ≥ 5 then ((groatref02_Put.f a2).bind fun b1 =>
      (some b1))
     else (some a2))
    else (some a2)))
  else (if a0 = 1 then (if a1 ≥ 5 then ((groatref02_Put.f a2).bind fun b2 =>
     (some b2))
    else (some a2))
   else (some a2)))
noncomputable def groatref12_content.c : Con := ⟨90, groatref12_content.sg, groatref12_content.rs, groatref12_content.f⟩
theorem groatref12_content.con : ConOk Try.prog groatref12_content.c := walked (C := groatref12_content.C) rfl (by kernel_rfl) (by kernel_rfl) (by kernel_rfl) rfl ⟨groatref03_Put.con, groatref02_Put.con, trivial⟩ fun ⟨a0, ⟨a1, a2⟩⟩ y h => ⟨0, (groatref12_content.eq 0 a0 a1 a2).trans h⟩
theorem groatref12_content (st c : Int) (hc : c ≤ 6) (l : List UInt8) (hl : l.length ≤ 35184372088832) : groatref12_content.f (st, c, sb l) = some (sb (cellBody (cellHow st c) l)) := by
  simp only [groatref12_content.f]
  rw [groatref03_Put l (by omega), Option.bind_some, groatref02_Put l hl, Option.bind_some]
  unfold cellBody cellHow
  by_cases h2 : st = 2
  · have h1 : ¬ st = 1 := by omega
    rw [if_pos h2]
    by_cases hc1 : c = 1
    · rw [if_pos hc1, if_pos (show st = 2 ∧ c = 1 from ⟨h2, hc1⟩), if_pos rfl]
    · rw [if_neg hc1, if_neg h1, if_neg (show ¬ (st = 2 ∧ c = 1) from fun q => hc1 q.2), if_neg (show ¬ (st = 1 ∧ (c = 5 ∨ c = 6)) from fun q => h1 q.1), if_neg (by decide), if_neg (by decide)]
  · rw [if_neg h2, if_neg (show ¬ (st = 2 ∧ c = 1) from fun q => h2 q.1)]
    by_cases h1 : st = 1
    · rw [if_pos h1]
      by_cases h5 : c ≥ 5
      · rw [if_pos h5, if_pos (show st = 1 ∧ (c = 5 ∨ c = 6) from ⟨h1, by omega⟩), if_neg (by decide), if_pos rfl]
      · rw [if_neg h5, if_neg (show ¬ (st = 1 ∧ (c = 5 ∨ c = 6)) from fun q => by omega), if_neg (by decide), if_neg (by decide)]
    · rw [if_neg h1, if_neg (show ¬ (st = 1 ∧ (c = 5 ∨ c = 6)) from fun q => h1 q.1), if_neg (by decide), if_neg (by decide)]
/-! ### groatref12_Put -/
@[reducible] def groatref12_Put.sg : List Shp := [.v (.int .i64), .a (.pair (.int .i64) (.pair (.int .i64) (.pair (.int .i64) (.pair (.int .i64) (.int .i64))))), .v (.str)]
@[reducible] def groatref12_Put.rs : Rs := .tup [.v (.str), .v (.int .i64)]
@[reducible] noncomputable def groatref12_Put.code : Code := Try.f50.body.getD .skip
noncomputable def groatref12_Put.C : Ctx := ⟨tab, [groatref11_Value.c, groatref07_Put.c, groatref12_content.c], [], ⟨[], []⟩⟩
theorem groatref12_Put.eq (n : Nat) (a0 : Int) (a1 : Int) (a2 : Int) (a3 : Int) (a4 : Int) (a5 : Int) (a6 : ByteArray) : call groatref12_Put.C Try.f50 groatref12_Put.code groatref12_Put.sg groatref12_Put.rs n (a0, ((a1, (a2, (a3, (a4, a5)))), a6)) =
  (if ¬a0 = 1 then (if ¬a0 = 2 then (some ((ByteArray.mk #[], 1)))
   else ((groatref11_Value.f ((a1, a2, a3, a4, a5), a6)).bind fun b0 =>
    (if ¬b0 = 0 then (some ((ByteArray.mk #[], b0)))
    else (if ¬a3 = 1 then ((groatref07_Put.f (a0, a3, (↑(ByteArray.size a6) : Int))).bind fun b1 =>
      ((groatref12_content.f (a0, a2, a6)).bind fun b2 =>
      ((scat (Prod.fst b1) b2).bind fun b3 =>
      (some ((b3, 0))))))
     else ((groatref12_content.f (a0, a2, a6)).bind fun b4 =>
      ((scat (ByteArray.mk #[]) b4).bind fun b5 =>
      (some ((b5, 0)))))))))
  else ((groatref11_Value.f ((a1, a2, a3, a4, a5), a6)).bind fun b6 =>
   (if ¬b6 = 0 then (some ((ByteArray.mk #[], b6)))
   else (if ¬a3 = 1 then ((groatref07_Put.f (a0, a3, (↑(ByteArray.size a6) : Int))).bind fun b7 =>
     ((groatref12_content.f (a0, a2, a6)).bind fun b8 =>
     ((scat (Prod.fst b7) b8).bind fun b9 =>
     (some ((b9, 0))))))
    else ((groatref12_content.f (a0, a2, a6)).bind fun b10 =>
     ((scat (ByteArray.mk #[]) b10).bind fun b11 =>
     (some ((b11, 0))))))))) := by kernel_rfl
noncomputable def groatref12_Put.f : El (sgTy groatref12_Put.sg) → Option (El groatref12_Put.rs.ty) := fun x => match x with
  | (a0, ((a1, (a2, (a3, (a4, a5)))), a6)) =>
  (if ¬a0 = 1 then (if ¬a0 = 2 then (some ((ByteArray.mk #[], 1)))
   else ((groatref11_Value.f ((a1, a2, a3, a4, a5), a6)).bind fun b0 =>
    (if ¬b0 = 0 then (some ((ByteArray.mk #[], b0)))
    else (if ¬a3 = 1 then ((groatref07_Put.f (a0, a3, (↑(ByteArray.size a6) : Int))).bind fun b1 =>
      ((groatref12_content.f (a0, a2, a6)).bind fun b2 =>
      ((scat (Prod.fst b1) b2).bind fun b3 =>
      (some ((b3, 0))))))
     else ((groatref12_content.f (a0, a2, a6)).bind fun b4 =>
      ((scat (ByteArray.mk #[]) b4).bind fun b5 =>
      (some ((b5, 0)))))))))
  else ((groatref11_Value.f ((a1, a2, a3, a4, a5), a6)).bind fun b6 =>
   (if ¬b6 = 0 then (some ((ByteArray.mk #[], b6)))
   else (if ¬a3 = 1 then ((groatref07_Put.f (a0, a3, (↑(ByteArray.size a6) : Int))).bind fun b7 =>
     ((groatref12_content.f (a0, a2, a6)).bind fun b8 =>
     ((scat (Prod.fst b7) b8).bind fun b9 =>
     (some ((b9, 0))))))
    else ((groatref12_content.f (a0, a2, a6)).bind fun b10 =>
     ((scat (ByteArray.mk #[]) b10).bind fun b11 =>
     (some ((b11, 0)))))))))
noncomputable def groatref12_Put.c : Con := ⟨50, groatref12_Put.sg, groatref12_Put.rs, groatref12_Put.f⟩
theorem groatref12_Put.con : ConOk Try.prog groatref12_Put.c := walked (C := groatref12_Put.C) rfl (by kernel_rfl) (by kernel_rfl) (by kernel_rfl) rfl ⟨groatref11_Value.con, groatref07_Put.con, groatref12_content.con, trivial⟩ fun ⟨a0, ⟨⟨a1, ⟨a2, ⟨a3, ⟨a4, a5⟩⟩⟩⟩, a6⟩⟩ y h => ⟨0, (groatref12_Put.eq 0 a0 a1 a2 a3 a4 a5 a6).trans h⟩
theorem groatref12_Put (st no c fo mi ma : Int) (l : List UInt8) (hs : st = 1 ∨ st = 2) (h : specV no c fo mi ma l = 0) : groatref12_Put.f (st, (no, c, fo, mi, ma), sb l) = some (sb (cellPut st no c fo mi ma l).1, 0) := by
  have h9 := specV_len h
  have hE := specE_zero (specV_zero h).1
  have hh := head_length st fo l.length hE.2.2.1
  have hb := body_length st c l h9
  have body : (if ¬fo = 1 then ((groatref07_Put.f (st, fo, ((sb l).size : Int))).bind fun b1 => (groatref12_content.f (st, c, sb l)).bind fun b2 => (scat (Prod.fst b1) b2).bind fun b3 => some (b3, 0))
      else ((groatref12_content.f (st, c, sb l)).bind fun b4 => (scat (ByteArray.mk #[]) b4).bind fun b5 => some (b5, 0))) = some (sb (cellPut st no c fo mi ma l).1, (0 : Int)) := by
    rw [groatref12_content st c (by omega) l (by omega), Option.bind_some, size_sb]
    unfold cellPut cellHead
    unfold cellHead at hh
    rw [if_neg (not_not_intro hs), if_neg (not_not_intro h)]
    by_cases c1 : fo = 1
    · rw [if_neg (not_not_intro c1), if_pos c1, show ByteArray.mk #[] = sb [] from rfl, scat_sb _ _ (by simp only [List.length_nil]; omega), Option.bind_some]
    · rw [if_neg c1] at hh
      rw [if_pos c1, if_neg c1, groatref07_Put st fo (l.length : Int) hs (by omega) (by omega), Option.bind_some, Option.bind_some, scat_sb _ _ (by omega), Option.bind_some]
  simp only [groatref12_Put.f]
  rw [groatref11_Value no c fo mi ma l (by omega), Option.bind_some, if_neg (not_not_intro h)]
  rcases hs with rfl | rfl
  · rw [if_neg (by decide)]; exact body
  · rw [if_pos (by decide), if_neg (by decide)]; exact body
/-! ### groatref17_Type -/
@[reducible] def groatref17_Type.sg : List Shp := [.v (.int .i64), .v (.str)]
@[reducible] def groatref17_Type.rs : Rs := .one (.v (.str))
@[reducible] noncomputable def groatref17_Type.code : Code := Try.f17.body.getD .skip
noncomputable def groatref17_Type.C : Ctx := ⟨tab, [groatref03_Put.c], [], ⟨[], []⟩⟩
theorem groatref17_Type.eq (n : Nat) (a0 : Int) (a1 : ByteArray) : call groatref17_Type.C Try.f17 groatref17_Type.code groatref17_Type.sg groatref17_Type.rs n (a0, a1) =
  (if a0 = 1 then (some a1)
  else ((groatref03_Put.f a1).bind fun b0 =>
   (some (Prod.fst b0)))) := by kernel_rfl
noncomputable def groatref17_Type.f : El (sgTy groatref17_Type.sg) → Option (El groatref17_Type.rs.ty) := fun x => match x with
  | (a0, a1) =>
  (if a0 = 1 then (some a1)
  else ((groatref03_Put.f a1).bind fun b0 =>
   (some (Prod.fst b0))))
noncomputable def groatref17_Type.c : Con := ⟨17, groatref17_Type.sg, groatref17_Type.rs, groatref17_Type.f⟩
theorem groatref17_Type.con : ConOk Try.prog groatref17_Type.c := walked (C := groatref17_Type.C) rfl (by kernel_rfl) (by kernel_rfl) (by kernel_rfl) rfl ⟨groatref03_Put.con, trivial⟩ fun ⟨a0, a1⟩ y h => ⟨0, (groatref17_Type.eq 0 a0 a1).trans h⟩
theorem groatref17_Type (st : Int) (t : List UInt8) (hs : st = 1 ∨ st = 2) (h : right t = true) : groatref17_Type.f (st, sb t) = some (sb (typeB st t)) := by
  obtain ⟨h1, h2, h3⟩ := right_put h
  simp only [groatref17_Type.f]
  rw [groatref03_Put t (by omega), Option.bind_some]
  unfold typeB
  rw [if_pos h]
  rcases hs with rfl | rfl
  · rw [if_pos rfl, if_pos rfl]
  · rw [if_neg (by decide), if_neg (by decide), if_pos rfl]
end Go.Proofs.Ytjbhknfdfnilbaa.Xe
