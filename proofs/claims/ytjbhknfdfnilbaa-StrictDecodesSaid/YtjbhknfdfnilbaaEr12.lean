/- What the reference's Get on lengths and on fields answers. -/
import Derived.Test.YtjbhknfdfnilbaaEr03g
import Derived.Test.YtjbhknfdfnilbaaEr11
import Derived.Test.YtjbhknfdfnilbaaEr15
import Derived.Test.YtjbhknfdfnilbaaEr02
import Derived.Test.YtjbhknfdfnilbaaNgc
namespace Go.Proofs.Ytjbhknfdfnilbaa.Xe
open Go Go.RowKit Go.Proofs.Ytjbhknfdfnilbaa.Sp
set_option linter.unusedVariables false
set_option linter.unusedSimpArgs false
set_option maxRecDepth 100000
theorem rsub_at (b : List UInt8) (p n : Nat) (h : p + n ≤ b.length) (hb : b.length ≤ 1000000000000) : ssub (sb b) (p : Int) (IntKind.wrap .i64 ((p : Int) + (n : Int))) = some (sb ((b.drop p).take n)) := by
  rw [wrap_id (by omega) (by omega), show (p : Int) + (n : Int) = ((p + n : Nat) : Int) by omega, ssub_sb _ _ _ (by omega) h]
  congr 2
  rw [List.drop_take, Nat.add_sub_cancel_left]
theorem bcdGet_len' (b : List UInt8) (n : Int) : (bcdGet b n).1.length ≤ 999 := by
  by_cases h : (bcdGet b n).2.1 = 0
  · obtain ⟨-, h0, h1, -, h2, -⟩ := bcdGet_ok (b := b) (n := n) (r := (bcdGet b n).1) (p := (bcdGet b n).2.2) (by rw [← h])
    omega
  · rw [bcdGet_no h]; simp
theorem hexGet_len' (b : List UInt8) : (hexGet b).1.length ≤ b.length + 1 := by
  by_cases h : (hexGet b).2.2 = true
  · have := congrArg List.length (hexGet_ok (l := b) (r := (hexGet b).1) (n := (hexGet b).2.1) (by rw [← h])).2
    rw [hexPut_length] at this
    omega
  · rw [(hexGet_no (by simpa using h)).1]; simp
/-- What is read of a length. -/
def preTailR (s f : Int) (b : ByteArray) (a z : Int) : Option (Int × Int × Int) :=
  if IntKind.wrap IntKind.i64 ((b.size : Int) - a) < z then some (0, 0, 2)
  else (ssub b a (IntKind.wrap IntKind.i64 (a + z))).bind fun b1 =>
    if s = 2 then (groatref03_Get.f (b1, f)).bind fun b2 =>
      if ¬Prod.fst (Prod.snd b2) = 0 then some (0, 0, 3)
      else (groatref01_Get.f (Prod.fst b2)).bind fun b3 => if ¬Prod.snd b3 = true then some (0, 0, 3) else some (Prod.fst b3, IntKind.wrap IntKind.i64 (a + z), 0)
    else (groatref01_Get.f b1).bind fun b4 => if ¬Prod.snd b4 = true then some (0, 0, 3) else some (Prod.fst b4, IntKind.wrap IntKind.i64 (a + z), 0)
theorem preTailR_eq (s f : Int) (b : List UInt8) (hb : b.length ≤ 1000000000000) (a : Nat) (ha : a ≤ b.length) (hk : preOk s f = true) : preTailR s f (sb b) (a : Int) (preSize s f : Int) = some (preGet s f b (a : Int)) := by
  obtain ⟨hs, hf⟩ := preOk_iff hk
  have hz : preSize s f ≤ 3 := by unfold preSize; split <;> omega
  unfold preTailR preGet
  rw [if_pos (show preOk s f = true ∧ 0 ≤ (a : Int) ∧ (a : Int) ≤ (b.length : Int) from ⟨hk, by omega, by omega⟩), size_sb, wrap_id (by omega) (by omega), Int.toNat_natCast]
  by_cases c1 : (b.length : Int) - (a : Int) < (preSize s f : Int)
  · rw [if_pos c1, if_pos c1]
  have hl : ((b.drop a).take (preSize s f)).length ≤ 1000 := by rw [List.length_take]; omega
  rw [if_neg c1, if_neg c1, rsub_at b a _ (by omega) hb, Option.bind_some, wrap_id (by omega) (by omega)]
  unfold preDigits
  by_cases c2 : s = 2
  · have hg := bcdGet_len' ((b.drop a).take (preSize s f)) f
    rw [if_pos c2, if_pos c2, groatref03_Get _ (by omega) f (by omega) (by omega), Option.bind_some]
    dsimp only
    by_cases c3 : (bcdGet ((b.drop a).take (preSize s f)) f).2.1 = 0
    · rw [if_neg (not_not_intro c3), if_pos c3, groatref01_Get _ (by omega), Option.bind_some]
      by_cases c4 : (getNum (bcdGet ((b.drop a).take (preSize s f)) f).1).2 = true
      · rw [if_neg (not_not_intro c4), if_pos c4]
      · rw [if_pos c4, if_neg c4]
    · rw [if_pos c3, if_neg c3]
  · rw [if_neg c2, if_neg c2, groatref01_Get _ (by omega), Option.bind_some]
    dsimp only
    rw [if_pos rfl]
    by_cases c4 : (getNum ((b.drop a).take (preSize s f))).2 = true
    · rw [if_neg (not_not_intro c4), if_pos c4]
    · rw [if_pos c4, if_neg c4]
/-! ### groatref07_Width -/
@[reducible] def groatref07_Width.sg : List Shp := [.v (.int .i64)]
@[reducible] def groatref07_Width.rs : Rs := .one (.v (.int .i64))
@[reducible] noncomputable def groatref07_Width.code : Code := Try.f113.body.getD .skip
noncomputable def groatref07_Width.C : Ctx := ⟨tab, [], [], ⟨[], []⟩⟩
theorem groatref07_Width.eq (n : Nat) (a0 : Int) : call groatref07_Width.C Try.f113 groatref07_Width.code groatref07_Width.sg groatref07_Width.rs n a0 =
  (if a0 = 2 then (some a0)
  else (if a0 = 3 then (some a0)
   else (some 0))) := by kernel_rfl
noncomputable def groatref07_Width.f : El (sgTy groatref07_Width.sg) → Option (El groatref07_Width.rs.ty) := fun x => match x with
  | a0 =>
  (if a0 = 2 then (some a0)
  else (if a0 = 3 then (some a0)
   else (some 0)))
noncomputable def groatref07_Width.c : Con := ⟨113, groatref07_Width.sg, groatref07_Width.rs, groatref07_Width.f⟩
theorem groatref07_Width.con : ConOk Try.prog groatref07_Width.c := walked (C := groatref07_Width.C) rfl (by kernel_rfl) (by kernel_rfl) (by kernel_rfl) rfl trivial fun a0 y h => ⟨0, (groatref07_Width.eq 0 a0).trans h⟩
theorem groatref07_Width (f : Int) : groatref07_Width.f f = some (if f = 2 ∨ f = 3 then f else 0) := by
  simp only [groatref07_Width.f]
  by_cases h : f = 2
  · rw [if_pos h, if_pos (.inl h)]
  · rw [if_neg h]
    by_cases h' : f = 3
    · rw [if_pos h', if_pos (.inr h')]
    · rw [if_neg h', if_neg (show ¬ (f = 2 ∨ f = 3) from fun e => e.elim h h')]
/-! ### groatref07_Get -/
@[reducible] def groatref07_Get.sg : List Shp := [.v (.int .i64), .v (.int .i64), .v (.str), .v (.int .i64)]
@[reducible] def groatref07_Get.rs : Rs := .tup [.v (.int .i64), .v (.int .i64), .v (.int .i64)]
@[reducible] noncomputable def groatref07_Get.code : Code := Try.f104.body.getD .skip
noncomputable def groatref07_Get.C : Ctx := ⟨tab, [groatref03_Get.c, groatref07_Width.c, groatref01_Get.c], [], ⟨[], []⟩⟩
theorem groatref07_Get.eq (n : Nat) (a0 : Int) (a1 : Int) (a2 : ByteArray) (a3 : Int) : call groatref07_Get.C Try.f104 groatref07_Get.code groatref07_Get.sg groatref07_Get.rs n (a0, (a1, (a2, a3))) =
  (if ¬a0 = 1 then (if ¬a0 = 2 then (some ((0, 0, 1)))
   else ((groatref07_Width.f a1).bind fun b0 =>
    (if b0 = 0 then (some ((0, 0, 1)))
    else (if a3 < 0 then (some ((0, 0, 1)))
     else (if a3 > (↑(ByteArray.size a2) : Int) then (some ((0, 0, 1)))
      else (if a0 = 2 then (if IntKind.wrap IntKind.i64 ((↑(ByteArray.size a2) : Int) - a3) < IntKind.wrap IntKind.i64 (a1 - 1) then (some ((0, 0, 2)))
        else ((ssub a2 a3 (IntKind.wrap IntKind.i64 (a3 + IntKind.wrap IntKind.i64 (a1 - 1)))).bind fun b1 =>
         (if a0 = 2 then ((groatref03_Get.f (b1, a1)).bind fun b2 =>
          (if ¬Prod.fst (Prod.snd b2) = 0 then (some ((0, 0, 3)))
          else ((groatref01_Get.f (Prod.fst b2)).bind fun b3 =>
           (if ¬Prod.snd b3 = true then (some ((0, 0, 3)))
           else (some ((Prod.fst b3, IntKind.wrap IntKind.i64 (a3 + IntKind.wrap IntKind.i64 (a1 - 1)), 0)))))))
         else ((groatref01_Get.f b1).bind fun b4 =>
          (if ¬Prod.snd b4 = true then (some ((0, 0, 3)))
          else (some ((Prod.fst b4, IntKind.wrap IntKind.i64 (a3 + IntKind.wrap IntKind.i64 (a1 - 1)), 0))))))))
       else (if IntKind.wrap IntKind.i64 ((↑(ByteArray.size a2) : Int) - a3) < a1 then (some ((0, 0, 2)))
        else ((ssub a2 a3 (IntKind.wrap IntKind.i64 (a3 + a1))).bind fun b5 =>
         (if a0 = 2 then ((groatref03_Get.f (b5, a1)).bind fun b6 =>
          (if ¬Prod.fst (Prod.snd b6) = 0 then (some ((0, 0, 3)))
          else ((groatref01_Get.f (Prod.fst b6)).bind fun b7 =>
           (if ¬Prod.snd b7 = true then (some ((0, 0, 3)))
           else (some ((Prod.fst b7, IntKind.wrap IntKind.i64 (a3 + a1), 0)))))))
         else ((groatref01_Get.f b5).bind fun b8 =>
          (if ¬Prod.snd b8 = true then (some ((0, 0, 3)))
          else (some ((Prod.fst b8, IntKind.wrap IntKind.i64 (a3 + a1), 0))))))))))))))
  else ((groatref07_Width.f a1).bind fun b9 =>
   (if b9 = 0 then (some ((0, 0, 1)))
   else (if a3 < 0 then (some ((0, 0, 1)))
    else (if a3 > (↑(ByteArray.size a2) : Int) then (some ((0, 0, 1)))
     else (if a0 = 2 then (if IntKind.wrap IntKind.i64 ((↑(ByteArray.size a2) : Int) - a3) < IntKind.wrap IntKind.i64 (a1 - 1) then (some ((0, 0, 2)))
       else ((ssub a2 a3 (IntKind.wrap IntKind.i64 (a3 + IntKind.wrap IntKind.i64 (a1 - 1)))).bind fun b10 =>
        (if a0 = 2 then ((groatref03_Get.f (b10, a1)).bind fun b11 =>
         (if ¬Prod.fst (Prod.snd b11) = 0 then (some ((0, 0, 3)))
         else ((groatref01_Get.f (Prod.fst b11)).bind fun b12 =>
          (if ¬Prod.snd b12 = true then (some ((0, 0, 3)))
          else (some ((Prod.fst b12, IntKind.wrap IntKind.i64 (a3 + IntKind.wrap IntKind.i64 (a1 - 1)), 0)))))))
        else ((groatref01_Get.f b10).bind fun b13 =>
         (if ¬Prod.snd b13 = true then (some ((0, 0, 3)))
         else (some ((Prod.fst b13, IntKind.wrap IntKind.i64 (a3 + IntKind.wrap IntKind.i64 (a1 - 1)), 0))))))))
      else (if IntKind.wrap IntKind.i64 ((↑(ByteArray.size a2) : Int) - a3) < a1 then (some ((0, 0, 2)))
       else ((ssub a2 a3 (IntKind.wrap IntKind.i64 (a3 + a1))).bind fun b14 =>
        (if a0 = 2 then ((groatref03_Get.f (b14, a1)).bind fun b15 =>
         (if ¬Prod.fst (Prod.snd b15) = 0 then (some ((0, 0, 3)))
         else ((groatref01_Get.f (Prod.fst b15)).bind fun b16 =>
          (if ¬Prod.snd b16 = true then (some ((0, 0, 3)))
          else (some ((Prod.fst b16, IntKind.wrap IntKind.i64 (a3 + a1), 0)))))))
        else ((groatref01_Get.f b14).bind fun b17 =>
         (if ¬Prod.snd b17 = true then (some ((0, 0, 3)))
         else (some ((Prod.fst b17, IntKind.wrap IntKind.i64 (a3 + a1), 0)))))))))))))) := by kernel_rfl
noncomputable def groatref07_Get.f : El (sgTy groatref07_Get.sg) → Option (El groatref07_Get.rs.ty) := fun x => match x with
  | (a0, (a1, (a2, a3))) =>
  (if ¬a0 = 1 then (if ¬a0 = 2 then (some ((0, 0, 1)))
   else ((groatref07_Width.f a1).bind fun b0 =>
    (if b0 = 0 then (some ((0, 0, 1)))
    else (if a3 < 0 then (some ((0, 0, 1)))
     else (if a3 > (↑(ByteArray.size a2) : Int) then (some ((0, 0, 1)))
      else (if a0 = 2 then (if IntKind.wrap IntKind.i64 ((↑(ByteArray.size a2) : Int) - a3) < IntKind.wrap IntKind.i64 (a1 - 1) then (some ((0, 0, 2)))
        else ((ssub a2 a3 (IntKind.wrap IntKind.i64 (a3 + IntKind.wrap IntKind.i64 (a1 - 1)))).bind fun b1 =>
         (if a0 = 2 then ((groatref03_Get.f (b1, a1)).bind fun b2 =>
          (if ¬Prod.fst (Prod.snd b2) = 0 then (some ((0, 0, 3)))
          else ((groatref01_Get.f (Prod.fst b2)).bind fun b3 =>
           (if ¬Prod.snd b3 = true then (some ((0, 0, 3)))
           else (some ((Prod.fst b3, IntKind.wrap IntKind.i64 (a3 + IntKind.wrap IntKind.i64 (a1 - 1)), 0)))))))
         else ((groatref01_Get.f b1).bind fun b4 =>
          (if ¬Prod.snd b4 = true then (some ((0, 0, 3)))
          else (some ((Prod.fst b4, IntKind.wrap IntKind.i64 (a3 + IntKind.wrap IntKind.i64 (a1 - 1)), 0))))))))
       else (if IntKind.wrap IntKind.i64 ((↑(ByteArray.size a2) : Int) - a3) < a1 then (some ((0, 0, 2)))
        else ((ssub a2 a3 (IntKind.wrap IntKind.i64 (a3 + a1))).bind fun b5 =>
         (if a0 = 2 then ((groatref03_Get.f (b5, a1)).bind fun b6 =>
          (if ¬Prod.fst (Prod.snd b6) = 0 then (some ((0, 0, 3)))
          else ((groatref01_Get.f (Prod.fst b6)).bind fun b7 =>
           (if ¬Prod.snd b7 = true then (some ((0, 0, 3)))
           else (some ((Prod.fst b7, IntKind.wrap IntKind.i64 (a3 + a1), 0)))))))
         else ((groatref01_Get.f b5).bind fun b8 =>
          (if ¬Prod.snd b8 = true then (some ((0, 0, 3)))
          else (some ((Prod.fst b8, IntKind.wrap IntKind.i64 (a3 + a1), 0))))))))))))))
  else ((groatref07_Width.f a1).bind fun b9 =>
   (if b9 = 0 then (some ((0, 0, 1)))
   else (if a3 < 0 then (some ((0, 0, 1)))
    else (if a3 > (↑(ByteArray.size a2) : Int) then (some ((0, 0, 1)))
     else (if a0 = 2 then (if IntKind.wrap IntKind.i64 ((↑(ByteArray.size a2) : Int) - a3) < IntKind.wrap IntKind.i64 (a1 - 1) then (some ((0, 0, 2)))
       else ((ssub a2 a3 (IntKind.wrap IntKind.i64 (a3 + IntKind.wrap IntKind.i64 (a1 - 1)))).bind fun b10 =>
        (if a0 = 2 then ((groatref03_Get.f (b10, a1)).bind fun b11 =>
         (if ¬Prod.fst (Prod.snd b11) = 0 then (some ((0, 0, 3)))
         else ((groatref01_Get.f (Prod.fst b11)).bind fun b12 =>
          (if ¬Prod.snd b12 = true then (some ((0, 0, 3)))
          else (some ((Prod.fst b12, IntKind.wrap IntKind.i64 (a3 + IntKind.wrap IntKind.i64 (a1 - 1)), 0)))))))
        else ((groatref01_Get.f b10).bind fun b13 =>
         (if ¬Prod.snd b13 = true then (some ((0, 0, 3)))
         else (some ((Prod.fst b13, IntKind.wrap IntKind.i64 (a3 + IntKind.wrap IntKind.i64 (a1 - 1)), 0))))))))
      else (if IntKind.wrap IntKind.i64 ((↑(ByteArray.size a2) : Int) - a3) < a1 then (some ((0, 0, 2)))
       else ((ssub a2 a3 (IntKind.wrap IntKind.i64 (a3 + a1))).bind fun b14 =>
        (if a0 = 2 then ((groatref03_Get.f (b14, a1)).bind fun b15 =>
         (if ¬Prod.fst (Prod.snd b15) = 0 then (some ((0, 0, 3)))
         else ((groatref01_Get.f (Prod.fst b15)).bind fun b16 =>
          (if ¬Prod.snd b16 = true then (some ((0, 0, 3)))
          else (some ((Prod.fst b16, IntKind.wrap IntKind.i64 (a3 + a1), 0)))))))
        else ((groatref01_Get.f b14).bind fun b17 =>
         (if ¬Prod.snd b17 = true then (some ((0, 0, 3)))
         else (some ((Prod.fst b17, IntKind.wrap IntKind.i64 (a3 + a1), 0))))))))))))))
noncomputable def groatref07_Get.c : Con := ⟨104, groatref07_Get.sg, groatref07_Get.rs, groatref07_Get.f⟩
theorem groatref07_Get.con : ConOk Try.prog groatref07_Get.c := walked (C := groatref07_Get.C) rfl (by kernel_rfl) (by kernel_rfl) (by kernel_rfl) rfl ⟨groatref03_Get.con, groatref07_Width.con, groatref01_Get.con, trivial⟩ fun ⟨a0, ⟨a1, ⟨a2, a3⟩⟩⟩ y h => ⟨0, (groatref07_Get.eq 0 a0 a1 a2 a3).trans h⟩
theorem groatref07_Get (s f : Int) (b : List UInt8) (hb : b.length ≤ 1000000000000) (a : Int) : groatref07_Get.f (s, f, sb b, a) = some (preGet s f b a) := by
  have hno : ¬ (preOk s f = true ∧ 0 ≤ a ∧ a ≤ (b.length : Int)) → preGet s f b a = (0, 0, 1) := fun h => by unfold preGet; rw [if_neg h]
  simp only [groatref07_Get.f]
  rw [groatref07_Width, Option.bind_some, size_sb]
  by_cases hf : f = 2 ∨ f = 3
  · rw [if_pos hf, if_neg (show ¬ f = 0 by omega)]
    by_cases c1 : a < 0
    · rw [if_pos c1, hno (by omega)]
      by_cases h1 : s = 1
      · rw [if_neg (not_not_intro h1)]
      · rw [if_pos h1]
        by_cases h2 : s = 2
        · rw [if_neg (not_not_intro h2)]
        · rw [if_pos h2]
    rw [if_neg c1]
    by_cases c2 : a > (b.length : Int)
    · rw [if_pos c2, hno (by omega)]
      by_cases h1 : s = 1
      · rw [if_neg (not_not_intro h1)]
      · rw [if_pos h1]
        by_cases h2 : s = 2
        · rw [if_neg (not_not_intro h2)]
        · rw [if_pos h2]
    rw [if_neg c2]
    obtain ⟨a, rfl⟩ := Int.eq_ofNat_of_zero_le (show 0 ≤ a by omega)
    by_cases h2 : s = 2
    · have hk : preOk s f = true := decide_eq_true ⟨.inr h2, hf⟩
      have key := preTailR_eq s f b hb a (by omega) hk
      have hz : IntKind.wrap .i64 (f - 1) = (preSize s f : Int) := by
        rw [wrap_id (by omega) (by omega)]
        unfold preSize
        rw [if_pos h2]; omega
      rw [if_pos (show ¬ s = 1 by omega), if_neg (not_not_intro h2), if_pos h2, hz]
      unfold preTailR at key
      rw [size_sb] at key
      exact key
    · by_cases h1 : s = 1
      · have hk : preOk s f = true := decide_eq_true ⟨.inl h1, hf⟩
        have key := preTailR_eq s f b hb a (by omega) hk
        have hz : f = (preSize s f : Int) := by
          unfold preSize
          rw [if_neg h2]; omega
        rw [← hz] at key
        rw [if_neg (not_not_intro h1), if_neg h2]
        unfold preTailR at key
        rw [size_sb] at key
        exact key
      · rw [if_pos h1, if_pos h2, hno (fun q => by have := (preOk_iff q.1).1; omega)]
  · rw [if_neg hf, if_pos rfl, hno (fun q => hf (preOk_iff q.1).2)]
    by_cases h1 : s = 1
    · rw [if_neg (not_not_intro h1)]
    · rw [if_pos h1]
      by_cases h2 : s = 2
      · rw [if_neg (not_not_intro h2)]
      · rw [if_pos h2]
def strR (x : List UInt8 × Int × Int) : ByteArray × Int × Int := (sb x.1, x.2.1, x.2.2)
noncomputable def refTailA (q : Int × Int × Int × Int × Int) (b : ByteArray) (a z n : Int) : Option (ByteArray × Int × Int) :=
  if IntKind.wrap IntKind.i64 ((b.size : Int) - a) < z then some (ByteArray.mk #[], 0, 2)
  else (ssub b a (IntKind.wrap IntKind.i64 (a + z))).bind fun t => (groatref03_Get.f (t, n)).bind fun u =>
    if ¬Prod.fst (Prod.snd u) = 0 then some (ByteArray.mk #[], 0, Prod.fst (Prod.snd u))
    else (groatref11_Value.f (q, Prod.fst u)).bind fun e => if ¬e = 0 then some (ByteArray.mk #[], 0, e) else some (Prod.fst u, IntKind.wrap IntKind.i64 (a + z), 0)
noncomputable def refTailB (q : Int × Int × Int × Int × Int) (b : ByteArray) (a z : Int) : Option (ByteArray × Int × Int) :=
  if IntKind.wrap IntKind.i64 ((b.size : Int) - a) < z then some (ByteArray.mk #[], 0, 2)
  else (ssub b a (IntKind.wrap IntKind.i64 (a + z))).bind fun t => (groatref02_Get.f t).bind fun u =>
    if ¬Prod.snd (Prod.snd u) = true then some (ByteArray.mk #[], 0, 3)
    else (groatref11_Value.f (q, Prod.fst u)).bind fun e => if ¬e = 0 then some (ByteArray.mk #[], 0, e) else some (Prod.fst u, IntKind.wrap IntKind.i64 (a + z), 0)
noncomputable def refTailC (q : Int × Int × Int × Int × Int) (b : ByteArray) (a z : Int) : Option (ByteArray × Int × Int) :=
  if IntKind.wrap IntKind.i64 ((b.size : Int) - a) < z then some (ByteArray.mk #[], 0, 2)
  else (ssub b a (IntKind.wrap IntKind.i64 (a + z))).bind fun t => (groatref11_Value.f (q, t)).bind fun e => if ¬e = 0 then some (ByteArray.mk #[], 0, e) else some (t, IntKind.wrap IntKind.i64 (a + z), 0)
theorem refTail_eq (st no c fo mi ma : Int) (b : List UInt8) (hb : b.length ≤ 1000000000000) (a n : Nat) (ha : a ≤ b.length) (hn : n ≤ 999) (z : Int) (hz : z = (cellSize (cellHow st c) n : Int)) :
    (cellHow st c = 1 → refTailA (no, c, fo, mi, ma) (sb b) (a : Int) z (n : Int) = some (strR (cellTake st no c fo mi ma b a n))) ∧
    (cellHow st c = 2 → refTailB (no, c, fo, mi, ma) (sb b) (a : Int) z = some (strR (cellTake st no c fo mi ma b a n))) ∧
    (cellHow st c = 0 → refTailC (no, c, fo, mi, ma) (sb b) (a : Int) z = some (strR (cellTake st no c fo mi ma b a n))) := by
  subst hz
  have hz : cellSize (cellHow st c) n ≤ 2000 := by
    unfold cellSize
    split
    · omega
    · split <;> omega
  unfold refTailA refTailB refTailC cellTake
  rw [size_sb, wrap_id (by omega) (by omega)]
  by_cases c1 : (b.length : Int) - (a : Int) < (cellSize (cellHow st c) n : Int)
  · rw [if_pos c1, if_pos c1, if_pos c1, if_pos c1]
    exact ⟨fun _ => rfl, fun _ => rfl, fun _ => rfl⟩
  rw [if_neg c1, if_neg c1, if_neg c1, if_neg c1, rsub_at b a _ (by omega) hb, Option.bind_some, Option.bind_some, Option.bind_some, wrap_id (by omega) (by omega), show (a : Int) + (cellSize (cellHow st c) n : Int) = ((a + cellSize (cellHow st c) n : Nat) : Int) by omega]
  generalize hraw : (b.drop a).take (cellSize (cellHow st c) n) = raw
  have hrl : raw.length ≤ 2000 := by rw [← hraw, List.length_take]; omega
  unfold cellText
  refine ⟨fun k1 => ?_, fun k1 => ?_, fun k1 => ?_⟩
  · have hl := bcdGet_len' raw n
    rw [if_pos k1, groatref03_Get raw (by omega) n (by omega) (by omega), Option.bind_some]
    dsimp only
    by_cases k2 : (bcdGet raw n).2.1 = 0
    · rw [if_neg (not_not_intro k2), if_neg (not_not_intro k2), groatref11_Value no c fo mi ma _ (by omega), Option.bind_some]
      by_cases k3 : specV no c fo mi ma (bcdGet raw n).1 = 0
      · rw [if_neg (not_not_intro k3), if_neg (not_not_intro k3)]; rfl
      · rw [if_pos k3, if_pos k3]; rfl
    · rw [if_pos k2, if_pos k2]; rfl
  · have hl := hexGet_len' raw
    rw [if_neg (show ¬ cellHow st c = 1 by omega), if_pos k1, groatref02_Get raw (by omega), Option.bind_some]
    dsimp only
    by_cases k3 : (hexGet raw).2.2 = true
    · rw [if_neg (not_not_intro k3), if_pos k3, if_neg (not_not_intro rfl), groatref11_Value no c fo mi ma _ (by omega), Option.bind_some]
      by_cases k4 : specV no c fo mi ma (hexGet raw).1 = 0
      · rw [if_neg (not_not_intro k4), if_neg (not_not_intro k4)]; rfl
      · rw [if_pos k4, if_pos k4]; rfl
    · rw [if_pos k3, if_neg k3, if_pos (by decide)]; rfl
  · rw [if_neg (show ¬ cellHow st c = 1 by omega), if_neg (show ¬ cellHow st c = 2 by omega), groatref11_Value no c fo mi ma _ (by omega), Option.bind_some]
    dsimp only
    rw [if_neg (not_not_intro rfl)]
    by_cases k4 : specV no c fo mi ma raw = 0
    · rw [if_neg (not_not_intro k4), if_neg (not_not_intro k4)]; rfl
    · rw [if_pos k4, if_pos k4]; rfl
/-! ### groatref12_Get -/
@[reducible] def groatref12_Get.sg : List Shp := [.v (.int .i64), .a (.pair (.int .i64) (.pair (.int .i64) (.pair (.int .i64) (.pair (.int .i64) (.int .i64))))), .v (.str), .v (.int .i64)]
@[reducible] def groatref12_Get.rs : Rs := .tup [.v (.str), .v (.int .i64), .v (.int .i64)]
@[reducible] noncomputable def groatref12_Get.code : Code := Try.f73.body.getD .skip
noncomputable def groatref12_Get.C : Ctx := ⟨tab, [groatref11_Value.c, groatref03_Get.c, groatref11_Check.c, groatref07_Get.c, groatref02_Get.c], [], ⟨[], [(1, [(44, .bool)]), (8, [(72, .bool)]), (13, [(82, .bool)]), (15, [(92, .bool)]), (20, [(114, .bool)]), (25, [(132, .bool)])]⟩⟩
theorem groatref12_Get.eq (n : Nat) (a0 : Int) (a1 : Int) (a2 : Int) (a3 : Int) (a4 : Int) (a5 : Int) (a6 : ByteArray) (a7 : Int) : call groatref12_Get.C Try.f73 groatref12_Get.code groatref12_Get.sg groatref12_Get.rs n (a0, ((a1, (a2, (a3, (a4, a5)))), (a6, a7))) =
  ((((if ¬a0 = 1 then (if ¬a0 = 2 then (some true)
    else ((groatref11_Check.f (a1, a2, a3, a4, a5)).bind fun b0 =>
     (if ¬b0 = 0 then (some true)
     else (if a7 < 0 then (some true)
      else (some (decide (a7 > (↑(ByteArray.size a6) : Int))))))))
   else ((groatref11_Check.f (a1, a2, a3, a4, a5)).bind fun b1 =>
    (if ¬b1 = 0 then (some true)
    else (if a7 < 0 then (some true)
     else (some (decide (a7 > (↑(ByteArray.size a6) : Int)))))))) : Option Bool)).bind fun b2 =>
  (if b2 = true then (some ((ByteArray.mk #[], 0, 1)))
  else (if ¬a3 = 1 then ((groatref07_Get.f (a0, a3, a6, a7)).bind fun b3 =>
    (if ¬Prod.snd (Prod.snd b3) = 0 then (some ((ByteArray.mk #[], 0, Prod.snd (Prod.snd b3))))
    else ((((if Prod.fst b3 < a4 then (some true)
      else (some (decide (Prod.fst b3 > a5)))) : Option Bool)).bind fun b4 =>
     (if b4 = true then (some ((ByteArray.mk #[], 0, 5)))
     else ((((if a0 = 2 then (some (decide (a2 = 1)))
       else (some false)) : Option Bool)).bind fun b5 =>
      (if b5 = true then ((((if a0 = 1 then (some (decide (a2 ≥ 5)))
        else (some false)) : Option Bool)).bind fun b6 =>
       (if b6 = true then (if IntKind.wrap IntKind.i64 ((↑(ByteArray.size a6) : Int) - Prod.fst (Prod.snd b3)) < IntKind.wrap IntKind.i64 (Prod.fst b3 + Prod.fst b3) then (some ((ByteArray.mk #[], 0, 2)))
        else ((ssub a6 (Prod.fst (Prod.snd b3)) (IntKind.wrap IntKind.i64 (Prod.fst (Prod.snd b3) + IntKind.wrap IntKind.i64 (Prod.fst b3 + Prod.fst b3)))).bind fun b7 =>
         ((((if a0 = 2 then (some (decide (a2 = 1)))
          else (some false)) : Option Bool)).bind fun b8 =>
         (if b8 = true then ((groatref03_Get.f (b7, Prod.fst b3)).bind fun b9 =>
          (if ¬Prod.fst (Prod.snd b9) = 0 then (some ((ByteArray.mk #[], 0, Prod.fst (Prod.snd b9))))
          else ((((if a0 = 1 then (some (decide (a2 ≥ 5)))
            else (some false)) : Option Bool)).bind fun b10 =>
           (if b10 = true then ((groatref02_Get.f (Prod.fst b9)).bind fun b11 =>
            (if ¬Prod.snd (Prod.snd b11) = true then (some ((ByteArray.mk #[], 0, 3)))
            else ((groatref11_Value.f ((a1, a2, a3, a4, a5), Prod.fst b11)).bind fun b12 =>
             (if ¬b12 = 0 then (some ((ByteArray.mk #[], 0, b12)))
             else (some ((Prod.fst b11, IntKind.wrap IntKind.i64 (Prod.fst (Prod.snd b3) + IntKind.wrap IntKind.i64 (Prod.fst b3 + Prod.fst b3)), 0)))))))
           else ((groatref11_Value.f ((a1, a2, a3, a4, a5), Prod.fst b9)).bind fun b13 =>
            (if ¬b13 = 0 then (some ((ByteArray.mk #[], 0, b13)))
            else (some ((Prod.fst b9, IntKind.wrap IntKind.i64 (Prod.fst (Prod.snd b3) + IntKind.wrap IntKind.i64 (Prod.fst b3 + Prod.fst b3)), 0)))))))))
         else ((((if a0 = 1 then (some (decide (a2 ≥ 5)))
           else (some false)) : Option Bool)).bind fun b14 =>
          (if b14 = true then ((groatref02_Get.f b7).bind fun b15 =>
           (if ¬Prod.snd (Prod.snd b15) = true then (some ((ByteArray.mk #[], 0, 3)))
           else ((groatref11_Value.f ((a1, a2, a3, a4, a5), Prod.fst b15)).bind fun b16 =>
            (if ¬b16 = 0 then (some ((ByteArray.mk #[], 0, b16)))
            else (some ((Prod.fst b15, IntKind.wrap IntKind.i64 (Prod.fst (Prod.snd b3) + IntKind.wrap IntKind.i64 (Prod.fst b3 + Prod.fst b3)), 0)))))))
          else ((groatref11_Value.f ((a1, a2, a3, a4, a5), b7)).bind fun b17 =>
           (if ¬b17 = 0 then (some ((ByteArray.mk #[], 0, b17)))
           else (some ((b7, IntKind.wrap IntKind.i64 (Prod.fst (Prod.snd b3) + IntKind.wrap IntKind.i64 (Prod.fst b3 + Prod.fst b3)), 0)))))))))))
       else (if IntKind.wrap IntKind.i64 ((↑(ByteArray.size a6) : Int) - Prod.fst (Prod.snd b3)) < IntKind.wrap IntKind.i64 (Int.tdiv (IntKind.wrap IntKind.i64 (Prod.fst b3 + 1)) 2) then (some ((ByteArray.mk #[], 0, 2)))
        else ((ssub a6 (Prod.fst (Prod.snd b3)) (IntKind.wrap IntKind.i64 (Prod.fst (Prod.snd b3) + IntKind.wrap IntKind.i64 (Int.tdiv (IntKind.wrap IntKind.i64 (Prod.fst b3 + 1)) 2)))).bind fun b18 =>
         ((((if a0 = 2 then (some (decide (a2 = 1)))
          else (some false)) : Option Bool)).bind fun b19 =>
         (if b19 = true then ((groatref03_Get.f (b18, Prod.fst b3)).bind fun b20 =>
          (if ¬Prod.fst (Prod.snd b20) = 0 then (some ((ByteArray.mk #[], 0, Prod.fst (Prod.snd b20))))
          else ((((if a0 = 1 then (some (decide (a2 ≥ 5)))
            else (some false)) : Option Bool)).bind fun b21 =>
           (if b21 = true then ((groatref02_Get.f (Prod.fst b20)).bind fun b22 =>
            (if ¬Prod.snd (Prod.snd b22) = true then (some ((ByteArray.mk #[], 0, 3)))
            else ((groatref11_Value.f ((a1, a2, a3, a4, a5), Prod.fst b22)).bind fun b23 =>
             (if ¬b23 = 0 then (some ((ByteArray.mk #[], 0, b23)))
             else (some ((Prod.fst b22, IntKind.wrap IntKind.i64 (Prod.fst (Prod.snd b3) + IntKind.wrap IntKind.i64 (Int.tdiv (IntKind.wrap IntKind.i64 (Prod.fst b3 + 1)) 2)), 0)))))))
           else ((groatref11_Value.f ((a1, a2, a3, a4, a5), Prod.fst b20)).bind fun b24 =>
            (if ¬b24 = 0 then (some ((ByteArray.mk #[], 0, b24)))
            else (some ((Prod.fst b20, IntKind.wrap IntKind.i64 (Prod.fst (Prod.snd b3) + IntKind.wrap IntKind.i64 (Int.tdiv (IntKind.wrap IntKind.i64 (Prod.fst b3 + 1)) 2)), 0)))))))))
         else ((((if a0 = 1 then (some (decide (a2 ≥ 5)))
           else (some false)) : Option Bool)).bind fun b25 =>
          (if b25 = true then ((groatref02_Get.f b18).bind fun b26 =>
           (if ¬Prod.snd (Prod.snd b26) = true then (some ((ByteArray.mk #[], 0, 3)))
           else ((groatref11_Value.f ((a1, a2, a3, a4, a5), Prod.fst b26)).bind fun b27 =>
            (if ¬b27 = 0 then (some ((ByteArray.mk #[], 0, b27)))
            else (some ((Prod.fst b26, IntKind.wrap IntKind.i64 (Prod.fst (Prod.snd b3) + IntKind.wrap IntKind.i64 (Int.tdiv (IntKind.wrap IntKind.i64 (Prod.fst b3 + 1)) 2)), 0)))))))
          else ((groatref11_Value.f ((a1, a2, a3, a4, a5), b18)).bind fun b28 =>
           (if ¬b28 = 0 then (some ((ByteArray.mk #[], 0, b28)))
           else (some ((b18, IntKind.wrap IntKind.i64 (Prod.fst (Prod.snd b3) + IntKind.wrap IntKind.i64 (Int.tdiv (IntKind.wrap IntKind.i64 (Prod.fst b3 + 1)) 2)), 0)))))))))))))
      else ((((if a0 = 1 then (some (decide (a2 ≥ 5)))
        else (some false)) : Option Bool)).bind fun b29 =>
       (if b29 = true then (if IntKind.wrap IntKind.i64 ((↑(ByteArray.size a6) : Int) - Prod.fst (Prod.snd b3)) < IntKind.wrap IntKind.i64 (Prod.fst b3 + Prod.fst b3) then (some ((ByteArray.mk #[], 0, 2)))
        else ((ssub a6 (Prod.fst (Prod.snd b3)) (IntKind.wrap IntKind.i64 (Prod.fst (Prod.snd b3) + IntKind.wrap IntKind.i64 (Prod.fst b3 + Prod.fst b3)))).bind fun b30 =>
         ((((if a0 = 2 then (some (decide (a2 = 1)))
          else (some false)) : Option Bool)).bind fun b31 =>
         (if b31 = true then ((groatref03_Get.f (b30, Prod.fst b3)).bind fun b32 =>
          (if ¬Prod.fst (Prod.snd b32) = 0 then (some ((ByteArray.mk #[], 0, Prod.fst (Prod.snd b32))))
          else ((((if a0 = 1 then (some (decide (a2 ≥ 5)))
            else (some false)) : Option Bool)).bind fun b33 =>
           (if b33 = true then ((groatref02_Get.f (Prod.fst b32)).bind fun b34 =>
            (if ¬Prod.snd (Prod.snd b34) = true then (some ((ByteArray.mk #[], 0, 3)))
            else ((groatref11_Value.f ((a1, a2, a3, a4, a5), Prod.fst b34)).bind fun b35 =>
             (if ¬b35 = 0 then (some ((ByteArray.mk #[], 0, b35)))
             else (some ((Prod.fst b34, IntKind.wrap IntKind.i64 (Prod.fst (Prod.snd b3) + IntKind.wrap IntKind.i64 (Prod.fst b3 + Prod.fst b3)), 0)))))))
           else ((groatref11_Value.f ((a1, a2, a3, a4, a5), Prod.fst b32)).bind fun b36 =>
            (if ¬b36 = 0 then (some ((ByteArray.mk #[], 0, b36)))
            else (some ((Prod.fst b32, IntKind.wrap IntKind.i64 (Prod.fst (Prod.snd b3) + IntKind.wrap IntKind.i64 (Prod.fst b3 + Prod.fst b3)), 0)))))))))
         else ((((if a0 = 1 then (some (decide (a2 ≥ 5)))
           else (some false)) : Option Bool)).bind fun b37 =>
          (if b37 = true then ((groatref02_Get.f b30).bind fun b38 =>
           (if ¬Prod.snd (Prod.snd b38) = true then (some ((ByteArray.mk #[], 0, 3)))
           else ((groatref11_Value.f ((a1, a2, a3, a4, a5), Prod.fst b38)).bind fun b39 =>
            (if ¬b39 = 0 then (some ((ByteArray.mk #[], 0, b39)))
            else (some ((Prod.fst b38, IntKind.wrap IntKind.i64 (Prod.fst (Prod.snd b3) + IntKind.wrap IntKind.i64 (Prod.fst b3 + Prod.fst b3)), 0)))))))
          else ((groatref11_Value.f ((a1, a2, a3, a4, a5), b30)).bind fun b40 =>
           (if ¬b40 = 0 then (some ((ByteArray.mk #[], 0, b40)))
           else (some ((b30, IntKind.wrap IntKind.i64 (Prod.fst (Prod.snd b3) + IntKind.wrap IntKind.i64 (Prod.fst b3 + Prod.fst b3)), 0)))))))))))
       else (if IntKind.wrap IntKind.i64 ((↑(ByteArray.size a6) : Int) - Prod.fst (Prod.snd b3)) < Prod.fst b3 then (some ((ByteArray.mk #[], 0, 2)))
        else ((ssub a6 (Prod.fst (Prod.snd b3)) (IntKind.wrap IntKind.i64 (Prod.fst (Prod.snd b3) + Prod.fst b3))).bind fun b41 =>
         ((((if a0 = 2 then (some (decide (a2 = 1)))
          else (some false)) : Option Bool)).bind fun b42 =>
         (if b42 = true then ((groatref03_Get.f (b41, Prod.fst b3)).bind fun b43 =>
          (if ¬Prod.fst (Prod.snd b43) = 0 then (some ((ByteArray.mk #[], 0, Prod.fst (Prod.snd b43))))
          else ((((if a0 = 1 then (some (decide (a2 ≥ 5)))
            else (some false)) : Option Bool)).bind fun b44 =>
           (if b44 = true then ((groatref02_Get.f (Prod.fst b43)).bind fun b45 =>
            (if ¬Prod.snd (Prod.snd b45) = true then (some ((ByteArray.mk #[], 0, 3)))
            else ((groatref11_Value.f ((a1, a2, a3, a4, a5), Prod.fst b45)).bind fun b46 =>
             (if ¬b46 = 0 then (some ((ByteArray.mk #[], 0, b46)))
             else (some ((Prod.fst b45, IntKind.wrap IntKind.i64 (Prod.fst (Prod.snd b3) + Prod.fst b3), 0)))))))
           else ((groatref11_Value.f ((a1, a2, a3, a4, a5), Prod.fst b43)).bind fun b47 =>
            (if ¬b47 = 0 then (some ((ByteArray.mk #[], 0, b47)))
            else (some ((Prod.fst b43, IntKind.wrap IntKind.i64 (Prod.fst (Prod.snd b3) + Prod.fst b3), 0)))))))))
         else ((((if a0 = 1 then (some (decide (a2 ≥ 5)))
           else (some false)) : Option Bool)).bind fun b48 =>
          (if b48 = true then ((groatref02_Get.f b41).bind fun b49 =>
           (if ¬Prod.snd (Prod.snd b49) = true then (some ((ByteArray.mk #[], 0, 3)))
           else ((groatref11_Value.f ((a1, a2, a3, a4, a5), Prod.fst b49)).bind fun b50 =>
            (if ¬b50 = 0 then (some ((ByteArray.mk #[], 0, b50)))
            else (some ((Prod.fst b49, IntKind.wrap IntKind.i64 (Prod.fst (Prod.snd b3) + Prod.fst b3), 0)))))))
          else ((groatref11_Value.f ((a1, a2, a3, a4, a5), b41)).bind fun b51 =>
           (if ¬b51 = 0 then (some ((ByteArray.mk #[], 0, b51)))
           else (some ((b41, IntKind.wrap IntKind.i64 (Prod.fst (Prod.snd b3) + Prod.fst b3), 0)))))))))))))))))))
   else ((((if a0 = 2 then (some (decide (a2 = 1)))
     else (some false)) : Option Bool)).bind fun b52 =>
    (if b52 = true then ((((if a0 = 1 then (some (decide (a2 ≥ 5)))
      else (some false)) : Option Bool)).bind fun b53 =>
     (if b53 = true then (if IntKind.wrap IntKind.i64 ((↑(ByteArray.size a6) : Int) - a7) < IntKind.wrap IntKind.i64 (a5 + a5) then (some ((ByteArray.mk #[], 0, 2)))
      else ((ssub a6 a7 (IntKind.wrap IntKind.i64 (a7 + IntKind.wrap IntKind.i64 (a5 + a5)))).bind fun b54 =>
       ((((if a0 = 2 then (some (decide (a2 = 1)))
        else (some false)) : Option Bool)).bind fun b55 =>
       (if b55 = true then ((groatref03_Get.f (b54, a5)).bind fun b56 =>
        (if ¬Prod.fst (Prod.snd b56) = 0 then (some ((ByteArray.mk #[], 0, Prod.fst (Prod.snd b56))))
        else ((((if a0 = 1 then (some (decide (a2 ≥ 5)))
          else (some false)) : Option Bool)).bind fun b57 =>
         (if b57 = true then ((groatref02_Get.f (Prod.fst b56)).bind fun b58 =>
          (if ¬Prod.snd (Prod.snd b58) = true then (some ((ByteArray.mk #[], 0, 3)))
          else ((groatref11_Value.f ((a1, a2, a3, a4, a5), Prod.fst b58)).bind fun b59 =>
           (if ¬b59 = 0 then (some ((ByteArray.mk #[], 0, b59)))
           else (some ((Prod.fst b58, IntKind.wrap IntKind.i64 (a7 + IntKind.wrap IntKind.i64 (a5 + a5)), 0)))))))
         else ((groatref11_Value.f ((a1, a2, a3, a4, a5), Prod.fst b56)).bind fun b60 =>
          (if ¬b60 = 0 then (some ((ByteArray.mk #[], 0, b60)))
          else (some ((Prod.fst b56, IntKind.wrap IntKind.i64 (a7 + IntKind.wrap IntKind.i64 (a5 + a5)), 0)))))))))
       else ((((if a0 = 1 then (some (decide (a2 ≥ 5)))
         else (some false)) : Option Bool)).bind fun b61 =>
        (if b61 = true then ((groatref02_Get.f b54).bind fun b62 =>
         (if ¬Prod.snd (Prod.snd b62) = true then (some ((ByteArray.mk #[], 0, 3)))
         else ((groatref11_Value.f ((a1, a2, a3, a4, a5), Prod.fst b62)).bind fun b63 =>
          (if ¬b63 = 0 then (some ((ByteArray.mk #[], 0, b63)))
          else (some ((Prod.fst b62, IntKind.wrap IntKind.i64 (a7 + IntKind.wrap IntKind.i64 (a5 + a5)), 0)))))))
        else ((groatref11_Value.f ((a1, a2, a3, a4, a5), b54)).bind fun b64 =>
         (if ¬b64 = 0 then (some ((ByteArray.mk #[], 0, b64)))
         else (some ((b54, IntKind.wrap IntKind.i64 (a7 + IntKind.wrap IntKind.i64 (a5 + a5)), 0)))))))))))
     else (if IntKind.wrap IntKind.i64 ((↑(ByteArray.size a6) : Int) - a7) < IntKind.wrap IntKind.i64 (Int.tdiv (IntKind.wrap IntKind.i64 (a5 + 1)) 2) then (some ((ByteArray.mk #[], 0, 2)))
      else ((ssub a6 a7 (IntKind.wrap IntKind.i64 (a7 + IntKind.wrap IntKind.i64 (Int.tdiv (IntKind.wrap IntKind.i64 (a5 + 1)) 2)))).bind fun b65 =>
       ((((if a0 = 2 then (some (decide (a2 = 1)))
        else (some false)) : Option Bool)).bind fun b66 =>
       (if b66 = true then ((groatref03_Get.f (b65, a5)).bind fun b67 =>
        (if ¬Prod.fst (Prod.snd b67) = 0 then (some ((ByteArray.mk #[], 0, Prod.fst (Prod.snd b67))))
        else ((((if a0 = 1 then (some (decide (a2 ≥ 5)))
          else (some false)) : Option Bool)).bind fun b68 =>
         (if b68 = true then ((groatref02_Get.f (Prod.fst b67)).bind fun b69 =>
          (if ¬Prod.snd (Prod.snd b69) = true then (some ((ByteArray.mk #[], 0, 3)))
          else ((groatref11_Value.f ((a1, a2, a3, a4, a5), Prod.fst b69)).bind fun b70 =>
           (if ¬b70 = 0 then (some ((ByteArray.mk #[], 0, b70)))
           else (some ((Prod.fst b69, IntKind.wrap IntKind.i64 (a7 + IntKind.wrap IntKind.i64 (Int.tdiv (IntKind.wrap IntKind.i64 (a5 + 1)) 2)), 0)))))))
         else ((groatref11_Value.f ((a1, a2, a3, a4, a5), Prod.fst b67)).bind fun b71 =>
          (if ¬b71 = 0 then (some ((ByteArray.mk #[], 0, b71)))
          else (some ((Prod.fst b67, IntKind.wrap IntKind.i64 (a7 + IntKind.wrap IntKind.i64 (Int.tdiv (IntKind.wrap IntKind.i64 (a5 + 1)) 2)), 0)))))))))
       else ((((if a0 = 1 then (some (decide (a2 ≥ 5)))
         else (some false)) : Option Bool)).bind fun b72 =>
        (if b72 = true then ((groatref02_Get.f b65).bind fun b73 =>
         (if ¬Prod.snd (Prod.snd b73) = true then (some ((ByteArray.mk #[], 0, 3)))
         else ((groatref11_Value.f ((a1, a2, a3, a4, a5), Prod.fst b73)).bind fun b74 =>
          (if ¬b74 = 0 then (some ((ByteArray.mk #[], 0, b74)))
          else (some ((Prod.fst b73, IntKind.wrap IntKind.i64 (a7 + IntKind.wrap IntKind.i64 (Int.tdiv (IntKind.wrap IntKind.i64 (a5 + 1)) 2)), 0)))))))
        else ((groatref11_Value.f ((a1, a2, a3, a4, a5), b65)).bind fun b75 =>
         (if ¬b75 = 0 then (some ((ByteArray.mk #[], 0, b75)))
         else (some ((b65, IntKind.wrap IntKind.i64 (a7 + IntKind.wrap IntKind.i64 (Int.tdiv (IntKind.wrap IntKind.i64 (a5 + 1)) 2)), 0)))))))))))))
    else ((((if a0 = 1 then (some (decide (a2 ≥ 5)))
      else (some false)) : Option Bool)).bind fun b76 =>
     (if b76 = true then (if IntKind.wrap IntKind.i64 ((↑(ByteArray.size a6) : Int) - a7) < IntKind.wrap IntKind.i64 (a5 + a5) then (some ((ByteArray.mk #[], 0, 2)))
      else ((ssub a6 a7 (IntKind.wrap IntKind.i64 (a7 + IntKind.wrap IntKind.i64 (a5 + a5)))).bind fun b77 =>
       ((((if a0 = 2 then (some (decide (a2 = 1)))
        else (some false)) : Option Bool)).bind fun b78 =>
       (if b78 = true then ((groatref03_Get.f (b77, a5)).bind fun b79 =>
        (if ¬Prod.fst (Prod.snd b79) = 0 then (some ((ByteArray.mk #[], 0, Prod.fst (Prod.snd b79))))
        else ((((if a0 = 1 then (some (decide (a2 ≥ 5)))
          else (some false)) : Option Bool)).bind fun b80 =>
         (if b80 = true then ((groatref02_Get.f (Prod.fst b79)).bind fun b81 =>
          (if ¬Prod.snd (Prod.snd b81) = true then (some ((ByteArray.mk #[], 0, 3)))
          else ((groatref11_Value.f ((a1, a2, a3, a4, a5), Prod.fst b81)).bind fun b82 =>
           (if ¬b82 = 0 then (some ((ByteArray.mk #[], 0, b82)))
           else (some ((Prod.fst b81, IntKind.wrap IntKind.i64 (a7 + IntKind.wrap IntKind.i64 (a5 + a5)), 0)))))))
         else ((groatref11_Value.f ((a1, a2, a3, a4, a5), Prod.fst b79)).bind fun b83 =>
          (if ¬b83 = 0 then (some ((ByteArray.mk #[], 0, b83)))
          else (some ((Prod.fst b79, IntKind.wrap IntKind.i64 (a7 + IntKind.wrap IntKind.i64 (a5 + a5)), 0)))))))))
       else ((((if a0 = 1 then (some (decide (a2 ≥ 5)))
         else (some false)) : Option Bool)).bind fun b84 =>
        (if b84 = true then ((groatref02_Get.f b77).bind fun b85 =>
         (if ¬Prod.snd (Prod.snd b85) = true then (some ((ByteArray.mk #[], 0, 3)))
         else ((groatref11_Value.f ((a1, a2, a3, a4, a5), Prod.fst b85)).bind fun b86 =>
          (if ¬b86 = 0 then (some ((ByteArray.mk #[], 0, b86)))
          else (some ((Prod.fst b85, IntKind.wrap IntKind.i64 (a7 + IntKind.wrap IntKind.i64 (a5 + a5)), 0)))))))
        else ((groatref11_Value.f ((a1, a2, a3, a4, a5), b77)).bind fun b87 =>
         (if ¬b87 = 0 then (some ((ByteArray.mk #[], 0, b87)))
         else (some ((b77, IntKind.wrap IntKind.i64 (a7 + IntKind.wrap IntKind.i64 (a5 + a5)), 0)))))))))))
     else (if IntKind.wrap IntKind.i64 ((↑(ByteArray.size a6) : Int) - a7) < a5 then (some ((ByteArray.mk #[], 0, 2)))
      else ((ssub a6 a7 (IntKind.wrap IntKind.i64 (a7 + a5))).bind fun b88 =>
       ((((if a0 = 2 then (some (decide (a2 = 1)))
        else (some false)) : Option Bool)).bind fun b89 =>
       (if b89 = true then ((groatref03_Get.f (b88, a5)).bind fun b90 =>
        (if ¬Prod.fst (Prod.snd b90) = 0 then (some ((ByteArray.mk #[], 0, Prod.fst (Prod.snd b90))))
        else ((((if a0 = 1 then (some (decide (a2 ≥ 5)))
          else (some false)) : Option Bool)).bind fun b91 =>
         (if b91 = true then ((groatref02_Get.f (Prod.fst b90)).bind fun b92 =>
          (if ¬Prod.snd (Prod.snd b92) = true then (some ((ByteArray.mk #[], 0, 3)))
          else ((groatref11_Value.f ((a1, a2, a3, a4, a5), Prod.fst b92)).bind fun b93 =>
           (if ¬b93 = 0 then (some ((ByteArray.mk #[], 0, b93)))
           else (some ((Prod.fst b92, IntKind.wrap IntKind.i64 (a7 + a5), 0)))))))
         else ((groatref11_Value.f ((a1, a2, a3, a4, a5), Prod.fst b90)).bind fun b94 =>
          (if ¬b94 = 0 then (some ((ByteArray.mk #[], 0, b94)))
          else (some ((Prod.fst b90, IntKind.wrap IntKind.i64 (a7 + a5), 0)))))))))
       else ((((if a0 = 1 then (some (decide (a2 ≥ 5)))
         else (some false)) : Option Bool)).bind fun b95 =>
        (if b95 = true then ((groatref02_Get.f b88).bind fun b96 =>
         (if ¬Prod.snd (Prod.snd b96) = true then (some ((ByteArray.mk #[], 0, 3)))
         else ((groatref11_Value.f ((a1, a2, a3, a4, a5), Prod.fst b96)).bind fun b97 =>
          (if ¬b97 = 0 then (some ((ByteArray.mk #[], 0, b97)))
          else (some ((Prod.fst b96, IntKind.wrap IntKind.i64 (a7 + a5), 0)))))))
        else ((groatref11_Value.f ((a1, a2, a3, a4, a5), b88)).bind fun b98 =>
         (if ¬b98 = 0 then (some ((ByteArray.mk #[], 0, b98)))
         else (some ((b88, IntKind.wrap IntKind.i64 (a7 + a5), 0)))))))))))))))))) := by kernel_rfl
noncomputable def groatref12_Get.f : El (sgTy groatref12_Get.sg) → Option (El groatref12_Get.rs.ty) := fun x => match x with
  | (a0, ((a1, (a2, (a3, (a4, a5)))), (a6, a7))) =>
  ((((if ¬a0 = 1 then (if ¬a0 = 2 then (some true)
    else ((groatref11_Check.f (a1, a2, a3, a4, a5)).bind fun b0 =>
     (if ¬b0 = 0 then (some true)
     else (if a7 < 0 then (some true)
      else (some (decide (a7 > (↑(ByteArray.size a6) : Int))))))))
   else ((groatref11_Check.f (a1, a2, a3, a4, a5)).bind fun b1 =>
    (if ¬b1 = 0 then (some true)
    else (if a7 < 0 then (some true)
     else (some (decide (a7 > (↑(ByteArray.size a6) : Int)))))))) : Option Bool)).bind fun b2 =>
  (if b2 = true then (some ((ByteArray.mk #[], 0, 1)))
  else (if ¬a3 = 1 then ((groatref07_Get.f (a0, a3, a6, a7)).bind fun b3 =>
    (if ¬Prod.snd (Prod.snd b3) = 0 then (some ((ByteArray.mk #[], 0, Prod.snd (Prod.snd b3))))
    else ((((if Prod.fst b3 < a4 then (some true)
      else (some (decide (Prod.fst b3 > a5)))) : Option Bool)).bind fun b4 =>
     (if b4 = true then (some ((ByteArray.mk #[], 0, 5)))
     else ((((if a0 = 2 then (some (decide (a2 = 1)))
       else (some false)) : Option Bool)).bind fun b5 =>
      (if b5 = true then ((((if a0 = 1 then (some (decide (a2 ≥ 5)))
        else (some false)) : Option Bool)).bind fun b6 =>
       (if b6 = true then (if IntKind.wrap IntKind.i64 ((↑(ByteArray.size a6) : Int) - Prod.fst (Prod.snd b3)) < IntKind.wrap IntKind.i64 (Prod.fst b3 + Prod.fst b3) then (some ((ByteArray.mk #[], 0, 2)))
        else ((ssub a6 (Prod.fst (Prod.snd b3)) (IntKind.wrap IntKind.i64 (Prod.fst (Prod.snd b3) + IntKind.wrap IntKind.i64 (Prod.fst b3 + Prod.fst b3)))).bind fun b7 =>
         ((((if a0 = 2 then (some (decide (a2 = 1)))
          else (some false)) : Option Bool)).bind fun b8 =>
         (if b8 = true then ((groatref03_Get.f (b7, Prod.fst b3)).bind fun b9 =>
          (if ¬Prod.fst (Prod.snd b9) = 0 then (some ((ByteArray.mk #[], 0, Prod.fst (Prod.snd b9))))
          else ((((if a0 = 1 then (some (decide (a2 ≥ 5)))
            else (some false)) : Option Bool)).bind fun b10 =>
           (if b10 = true then ((groatref02_Get.f (Prod.fst b9)).bind fun b11 =>
            (if ¬Prod.snd (Prod.snd b11) = true then (some ((ByteArray.mk #[], 0, 3)))
            else ((groatref11_Value.f ((a1, a2, a3, a4, a5), Prod.fst b11)).bind fun b12 =>
             (if ¬b12 = 0 then (some ((ByteArray.mk #[], 0, b12)))
             else (some ((Prod.fst b11, IntKind.wrap IntKind.i64 (Prod.fst (Prod.snd b3) + IntKind.wrap IntKind.i64 (Prod.fst b3 + Prod.fst b3)), 0)))))))
           else ((groatref11_Value.f ((a1, a2, a3, a4, a5), Prod.fst b9)).bind fun b13 =>
            (if ¬b13 = 0 then (some ((ByteArray.mk #[], 0, b13)))
            else (some ((Prod.fst b9, IntKind.wrap IntKind.i64 (Prod.fst (Prod.snd b3) + IntKind.wrap IntKind.i64 (Prod.fst b3 + Prod.fst b3)), 0)))))))))
         else ((((if a0 = 1 then (some (decide (a2 ≥ 5)))
           else (some false)) : Option Bool)).bind fun b14 =>
          (if b14 = true then ((groatref02_Get.f b7).bind fun b15 =>
           (if ¬Prod.snd (Prod.snd b15) = true then (some ((ByteArray.mk #[], 0, 3)))
           else ((groatref11_Value.f ((a1, a2, a3, a4, a5), Prod.fst b15)).bind fun b16 =>
            (if ¬b16 = 0 then (some ((ByteArray.mk #[], 0, b16)))
            else (some ((Prod.fst b15, IntKind.wrap IntKind.i64 (Prod.fst (Prod.snd b3) + IntKind.wrap IntKind.i64 (Prod.fst b3 + Prod.fst b3)), 0)))))))
          else ((groatref11_Value.f ((a1, a2, a3, a4, a5), b7)).bind fun b17 =>
           (if ¬b17 = 0 then (some ((ByteArray.mk #[], 0, b17)))
           else (some ((b7, IntKind.wrap IntKind.i64 (Prod.fst (Prod.snd b3) + IntKind.wrap IntKind.i64 (Prod.fst b3 + Prod.fst b3)), 0)))))))))))
       else (if IntKind.wrap IntKind.i64 ((↑(ByteArray.size a6) : Int) - Prod.fst (Prod.snd b3)) < IntKind.wrap IntKind.i64 (Int.tdiv (IntKind.wrap IntKind.i64 (Prod.fst b3 + 1)) 2) then (some ((ByteArray.mk #[], 0, 2)))
        else ((ssub a6 (Prod.fst (Prod.snd b3)) (IntKind.wrap IntKind.i64 (Prod.fst (Prod.snd b3) + IntKind.wrap IntKind.i64 (Int.tdiv (IntKind.wrap IntKind.i64 (Prod.fst b3 + 1)) 2)))).bind fun b18 =>
         ((((if a0 = 2 then (some (decide (a2 = 1)))
          else (some false)) : Option Bool)).bind fun b19 =>
         (if b19 = true then ((groatref03_Get.f (b18, Prod.fst b3)).bind fun b20 =>
          (if ¬Prod.fst (Prod.snd b20) = 0 then (some ((ByteArray.mk #[], 0, Prod.fst (Prod.snd b20))))
          else ((((if a0 = 1 then (some (decide (a2 ≥ 5)))
            else (some false)) : Option Bool)).bind fun b21 =>
           (if b21 = true then ((groatref02_Get.f (Prod.fst b20)).bind fun b22 =>
            (if ¬Prod.snd (Prod.snd b22) = true then (some ((ByteArray.mk #[], 0, 3)))
            else ((groatref11_Value.f ((a1, a2, a3, a4, a5), Prod.fst b22)).bind fun b23 =>
             (if ¬b23 = 0 then (some ((ByteArray.mk #[], 0, b23)))
             else (some ((Prod.fst b22, IntKind.wrap IntKind.i64 (Prod.fst (Prod.snd b3) + IntKind.wrap IntKind.i64 (Int.tdiv (IntKind.wrap IntKind.i64 (Prod.fst b3 + 1)) 2)), 0)))))))
           else ((groatref11_Value.f ((a1, a2, a3, a4, a5), Prod.fst b20)).bind fun b24 =>
            (if ¬b24 = 0 then (some ((ByteArray.mk #[], 0, b24)))
            else (some ((Prod.fst b20, IntKind.wrap IntKind.i64 (Prod.fst (Prod.snd b3) + IntKind.wrap IntKind.i64 (Int.tdiv (IntKind.wrap IntKind.i64 (Prod.fst b3 + 1)) 2)), 0)))))))))
         else ((((if a0 = 1 then (some (decide (a2 ≥ 5)))
           else (some false)) : Option Bool)).bind fun b25 =>
          (if b25 = true then ((groatref02_Get.f b18).bind fun b26 =>
           (if ¬Prod.snd (Prod.snd b26) = true then (some ((ByteArray.mk #[], 0, 3)))
           else ((groatref11_Value.f ((a1, a2, a3, a4, a5), Prod.fst b26)).bind fun b27 =>
            (if ¬b27 = 0 then (some ((ByteArray.mk #[], 0, b27)))
            else (some ((Prod.fst b26, IntKind.wrap IntKind.i64 (Prod.fst (Prod.snd b3) + IntKind.wrap IntKind.i64 (Int.tdiv (IntKind.wrap IntKind.i64 (Prod.fst b3 + 1)) 2)), 0)))))))
          else ((groatref11_Value.f ((a1, a2, a3, a4, a5), b18)).bind fun b28 =>
           (if ¬b28 = 0 then (some ((ByteArray.mk #[], 0, b28)))
           else (some ((b18, IntKind.wrap IntKind.i64 (Prod.fst (Prod.snd b3) + IntKind.wrap IntKind.i64 (Int.tdiv (IntKind.wrap IntKind.i64 (Prod.fst b3 + 1)) 2)), 0)))))))))))))
      else ((((if a0 = 1 then (some (decide (a2 ≥ 5)))
        else (some false)) : Option Bool)).bind fun b29 =>
       (if b29 = true then (if IntKind.wrap IntKind.i64 ((↑(ByteArray.size a6) : Int) - Prod.fst (Prod.snd b3)) < IntKind.wrap IntKind.i64 (Prod.fst b3 + Prod.fst b3) then (some ((ByteArray.mk #[], 0, 2)))
        else ((ssub a6 (Prod.fst (Prod.snd b3)) (IntKind.wrap IntKind.i64 (Prod.fst (Prod.snd b3) + IntKind.wrap IntKind.i64 (Prod.fst b3 + Prod.fst b3)))).bind fun b30 =>
         ((((if a0 = 2 then (some (decide (a2 = 1)))
          else (some false)) : Option Bool)).bind fun b31 =>
         (if b31 = true then ((groatref03_Get.f (b30, Prod.fst b3)).bind fun b32 =>
          (if ¬Prod.fst (Prod.snd b32) = 0 then (some ((ByteArray.mk #[], 0, Prod.fst (Prod.snd b32))))
          else ((((if a0 = 1 then (some (decide (a2 ≥ 5)))
            else (some false)) : Option Bool)).bind fun b33 =>
           (if b33 = true then ((groatref02_Get.f (Prod.fst b32)).bind fun b34 =>
            (if ¬Prod.snd (Prod.snd b34) = true then (some ((ByteArray.mk #[], 0, 3)))
            else ((groatref11_Value.f ((a1, a2, a3, a4, a5), Prod.fst b34)).bind fun b35 =>
             (if ¬b35 = 0 then (some ((ByteArray.mk #[], 0, b35)))
             else (some ((Prod.fst b34, IntKind.wrap IntKind.i64 (Prod.fst (Prod.snd b3) + IntKind.wrap IntKind.i64 (Prod.fst b3 + Prod.fst b3)), 0)))))))
           else ((groatref11_Value.f ((a1, a2, a3, a4, a5), Prod.fst b32)).bind fun b36 =>
            (if ¬b36 = 0 then (some ((ByteArray.mk #[], 0, b36)))
            else (some ((Prod.fst b32, IntKind.wrap IntKind.i64 (Prod.fst (Prod.snd b3) + IntKind.wrap IntKind.i64 (Prod.fst b3 + Prod.fst b3)), 0)))))))))
         else ((((if a0 = 1 then (some (decide (a2 ≥ 5)))
           else (some false)) : Option Bool)).bind fun b37 =>
          (if b37 = true then ((groatref02_Get.f b30).bind fun b38 =>
           (if ¬Prod.snd (Prod.snd b38) = true then (some ((ByteArray.mk #[], 0, 3)))
           else ((groatref11_Value.f ((a1, a2, a3, a4, a5), Prod.fst b38)).bind fun b39 =>
            (if ¬b39 = 0 then (some ((ByteArray.mk #[], 0, b39)))
            else (some ((Prod.fst b38, IntKind.wrap IntKind.i64 (Prod.fst (Prod.snd b3) + IntKind.wrap IntKind.i64 (Prod.fst b3 + Prod.fst b3)), 0)))))))
          else ((groatref11_Value.f ((a1, a2, a3, a4, a5), b30)).bind fun b40 =>
           (if ¬b40 = 0 then (some ((ByteArray.mk #[], 0, b40)))
           else (some ((b30, IntKind.wrap IntKind.i64 (Prod.fst (Prod.snd b3) + IntKind.wrap IntKind.i64 (Prod.fst b3 + Prod.fst b3)), 0)))))))))))
       else (if IntKind.wrap IntKind.i64 ((↑(ByteArray.size a6) : Int) - Prod.fst (Prod.snd b3)) < Prod.fst b3 then (some ((ByteArray.mk #[], 0, 2)))
        else ((ssub a6 (Prod.fst (Prod.snd b3)) (IntKind.wrap IntKind.i64 (Prod.fst (Prod.snd b3) + Prod.fst b3))).bind fun b41 =>
         ((((if a0 = 2 then (some (decide (a2 = 1)))
          else (some false)) : Option Bool)).bind fun b42 =>
         (if b42 = true then ((groatref03_Get.f (b41, Prod.fst b3)).bind fun b43 =>
          (if ¬Prod.fst (Prod.snd b43) = 0 then (some ((ByteArray.mk #[], 0, Prod.fst (Prod.snd b43))))
          else ((((if a0 = 1 then (some (decide (a2 ≥ 5)))
            else (some false)) : Option Bool)).bind fun b44 =>
           (if b44 = true then ((groatref02_Get.f (Prod.fst b43)).bind fun b45 =>
            (if ¬Prod.snd (Prod.snd b45) = true then (some ((ByteArray.mk #[], 0, 3)))
            else ((groatref11_Value.f ((a1, a2, a3, a4, a5), Prod.fst b45)).bind fun b46 =>
             (if ¬b46 = 0 then (some ((ByteArray.mk #[], 0, b46)))
             else (some ((Prod.fst b45, IntKind.wrap IntKind.i64 (Prod.fst (Prod.snd b3) + Prod.fst b3), 0)))))))
           else ((groatref11_Value.f ((a1, a2, a3, a4, a5), Prod.fst b43)).bind fun b47 =>
            (if ¬b47 = 0 then (some ((ByteArray.mk #[], 0, b47)))
            else (some ((Prod.fst b43, IntKind.wrap IntKind.i64 (Prod.fst (Prod.snd b3) + Prod.fst b3), 0)))))))))
         else ((((if a0 = 1 then (some (decide (a2 ≥ 5)))
           else (some false)) : Option Bool)).bind fun b48 =>
          (if b48 = true then ((groatref02_Get.f b41).bind fun b49 =>
           (if ¬Prod.snd (Prod.snd b49) = true then (some ((ByteArray.mk #[], 0, 3)))
           else ((groatref11_Value.f ((a1, a2, a3, a4, a5), Prod.fst b49)).bind fun b50 =>
            (if ¬b50 = 0 then (some ((ByteArray.mk #[], 0, b50)))
            else (some ((Prod.fst b49, IntKind.wrap IntKind.i64 (Prod.fst (Prod.snd b3) + Prod.fst b3), 0)))))))
          else ((groatref11_Value.f ((a1, a2, a3, a4, a5), b41)).bind fun b51 =>
           (if ¬b51 = 0 then (some ((ByteArray.mk #[], 0, b51)))
           else (some ((b41, IntKind.wrap IntKind.i64 (Prod.fst (Prod.snd b3) + Prod.fst b3), 0)))))))))))))))))))
   else ((((if a0 = 2 then (some (decide (a2 = 1)))
     else (some false)) : Option Bool)).bind fun b52 =>
    (if b52 = true then ((((if a0 = 1 then (some (decide (a2 ≥ 5)))
      else (some false)) : Option Bool)).bind fun b53 =>
     (if b53 = true then (if IntKind.wrap IntKind.i64 ((↑(ByteArray.size a6) : Int) - a7) < IntKind.wrap IntKind.i64 (a5 + a5) then (some ((ByteArray.mk #[], 0, 2)))
      else ((ssub a6 a7 (IntKind.wrap IntKind.i64 (a7 + IntKind.wrap IntKind.i64 (a5 + a5)))).bind fun b54 =>
       ((((if a0 = 2 then (some (decide (a2 = 1)))
        else (some false)) : Option Bool)).bind fun b55 =>
       (if b55 = true then ((groatref03_Get.f (b54, a5)).bind fun b56 =>
        (if ¬Prod.fst (Prod.snd b56) = 0 then (some ((ByteArray.mk #[], 0, Prod.fst (Prod.snd b56))))
        else ((((if a0 = 1 then (some (decide (a2 ≥ 5)))
          else (some false)) : Option Bool)).bind fun b57 =>
         (if b57 = true then ((groatref02_Get.f (Prod.fst b56)).bind fun b58 =>
          (if ¬Prod.snd (Prod.snd b58) = true then (some ((ByteArray.mk #[], 0, 3)))
          else ((groatref11_Value.f ((a1, a2, a3, a4, a5), Prod.fst b58)).bind fun b59 =>
           (if ¬b59 = 0 then (some ((ByteArray.mk #[], 0, b59)))
           else (some ((Prod.fst b58, IntKind.wrap IntKind.i64 (a7 + IntKind.wrap IntKind.i64 (a5 + a5)), 0)))))))
         else ((groatref11_Value.f ((a1, a2, a3, a4, a5), Prod.fst b56)).bind fun b60 =>
          (if ¬b60 = 0 then (some ((ByteArray.mk #[], 0, b60)))
          else (some ((Prod.fst b56, IntKind.wrap IntKind.i64 (a7 + IntKind.wrap IntKind.i64 (a5 + a5)), 0)))))))))
       else ((((if a0 = 1 then (some (decide (a2 ≥ 5)))
         else (some false)) : Option Bool)).bind fun b61 =>
        (if b61 = true then ((groatref02_Get.f b54).bind fun b62 =>
         (if ¬Prod.snd (Prod.snd b62) = true then (some ((ByteArray.mk #[], 0, 3)))
         else ((groatref11_Value.f ((a1, a2, a3, a4, a5), Prod.fst b62)).bind fun b63 =>
          (if ¬b63 = 0 then (some ((ByteArray.mk #[], 0, b63)))
          else (some ((Prod.fst b62, IntKind.wrap IntKind.i64 (a7 + IntKind.wrap IntKind.i64 (a5 + a5)), 0)))))))
        else ((groatref11_Value.f ((a1, a2, a3, a4, a5), b54)).bind fun b64 =>
         (if ¬b64 = 0 then (some ((ByteArray.mk #[], 0, b64)))
         else (some ((b54, IntKind.wrap IntKind.i64 (a7 + IntKind.wrap IntKind.i64 (a5 + a5)), 0)))))))))))
     else (if IntKind.wrap IntKind.i64 ((↑(ByteArray.size a6) : Int) - a7) < IntKind.wrap IntKind.i64 (Int.tdiv (IntKind.wrap IntKind.i64 (a5 + 1)) 2) then (some ((ByteArray.mk #[], 0, 2)))
      else ((ssub a6 a7 (IntKind.wrap IntKind.i64 (a7 + IntKind.wrap IntKind.i64 (Int.tdiv (IntKind.wrap IntKind.i64 (a5 + 1)) 2)))).bind fun b65 =>
       ((((if a0 = 2 then (some (decide (a2 = 1)))
        else (some false)) : Option Bool)).bind fun b66 =>
       (if b66 = true then ((groatref03_Get.f (b65, a5)).bind fun b67 =>
        (if ¬Prod.fst (Prod.snd b67) = 0 then (some ((ByteArray.mk #[], 0, Prod.fst (Prod.snd b67))))
        else ((((if a0 = 1 then (some (decide (a2 ≥ 5)))
          else (some false)) : Option Bool)).bind fun b68 =>
         (if b68 = true then ((groatref02_Get.f (Prod.fst b67)).bind fun b69 =>
          (if ¬Prod.snd (Prod.snd b69) = true then (some ((ByteArray.mk #[], 0, 3)))
          else ((groatref11_Value.f ((a1, a2, a3, a4, a5), Prod.fst b69)).bind fun b70 =>
           (if ¬b70 = 0 then (some ((ByteArray.mk #[], 0, b70)))
           else (some ((Prod.fst b69, IntKind.wrap IntKind.i64 (a7 + IntKind.wrap IntKind.i64 (Int.tdiv (IntKind.wrap IntKind.i64 (a5 + 1)) 2)), 0)))))))
         else ((groatref11_Value.f ((a1, a2, a3, a4, a5), Prod.fst b67)).bind fun b71 =>
          (if ¬b71 = 0 then (some ((ByteArray.mk #[], 0, b71)))
          else (some ((Prod.fst b67, IntKind.wrap IntKind.i64 (a7 + IntKind.wrap IntKind.i64 (Int.tdiv (IntKind.wrap IntKind.i64 (a5 + 1)) 2)), 0)))))))))
       else ((((if a0 = 1 then (some (decide (a2 ≥ 5)))
         else (some false)) : Option Bool)).bind fun b72 =>
        (if b72 = true then ((groatref02_Get.f b65).bind fun b73 =>
         (if ¬Prod.snd (Prod.snd b73) = true then (some ((ByteArray.mk #[], 0, 3)))
         else ((groatref11_Value.f ((a1, a2, a3, a4, a5), Prod.fst b73)).bind fun b74 =>
          (if ¬b74 = 0 then (some ((ByteArray.mk #[], 0, b74)))
          else (some ((Prod.fst b73, IntKind.wrap IntKind.i64 (a7 + IntKind.wrap IntKind.i64 (Int.tdiv (IntKind.wrap IntKind.i64 (a5 + 1)) 2)), 0)))))))
        else ((groatref11_Value.f ((a1, a2, a3, a4, a5), b65)).bind fun b75 =>
         (if ¬b75 = 0 then (some ((ByteArray.mk #[], 0, b75)))
         else (some ((b65, IntKind.wrap IntKind.i64 (a7 + IntKind.wrap IntKind.i64 (Int.tdiv (IntKind.wrap IntKind.i64 (a5 + 1)) 2)), 0)))))))))))))
    else ((((if a0 = 1 then (some (decide (a2 ≥ 5)))
      else (some false)) : Option Bool)).bind fun b76 =>
     (if b76 = true then (if IntKind.wrap IntKind.i64 ((↑(ByteArray.size a6) : Int) - a7) < IntKind.wrap IntKind.i64 (a5 + a5) then (some ((ByteArray.mk #[], 0, 2)))
      else ((ssub a6 a7 (IntKind.wrap IntKind.i64 (a7 + IntKind.wrap IntKind.i64 (a5 + a5)))).bind fun b77 =>
       ((((if a0 = 2 then (some (decide (a2 = 1)))
        else (some false)) : Option Bool)).bind fun b78 =>
       (if b78 = true then ((groatref03_Get.f (b77, a5)).bind fun b79 =>
        (if ¬Prod.fst (Prod.snd b79) = 0 then (some ((ByteArray.mk #[], 0, Prod.fst (Prod.snd b79))))
        else ((((if a0 = 1 then (some (decide (a2 ≥ 5)))
          else (some false)) : Option Bool)).bind fun b80 =>
         (if b80 = true then ((groatref02_Get.f (Prod.fst b79)).bind fun b81 =>
          (if ¬Prod.snd (Prod.snd b81) = true then (some ((ByteArray.mk #[], 0, 3)))
          else ((groatref11_Value.f ((a1, a2, a3, a4, a5), Prod.fst b81)).bind fun b82 =>
           (if ¬b82 = 0 then (some ((ByteArray.mk #[], 0, b82)))
           else (some ((Prod.fst b81, IntKind.wrap IntKind.i64 (a7 + IntKind.wrap IntKind.i64 (a5 + a5)), 0)))))))
         else ((groatref11_Value.f ((a1, a2, a3, a4, a5), Prod.fst b79)).bind fun b83 =>
          (if ¬b83 = 0 then (some ((ByteArray.mk #[], 0, b83)))
          else (some ((Prod.fst b79, IntKind.wrap IntKind.i64 (a7 + IntKind.wrap IntKind.i64 (a5 + a5)), 0)))))))))
       else ((((if a0 = 1 then (some (decide (a2 ≥ 5)))
         else (some false)) : Option Bool)).bind fun b84 =>
        (if b84 = true then ((groatref02_Get.f b77).bind fun b85 =>
         (if ¬Prod.snd (Prod.snd b85) = true then (some ((ByteArray.mk #[], 0, 3)))
         else ((groatref11_Value.f ((a1, a2, a3, a4, a5), Prod.fst b85)).bind fun b86 =>
          (if ¬b86 = 0 then (some ((ByteArray.mk #[], 0, b86)))
          else (some ((Prod.fst b85, IntKind.wrap IntKind.i64 (a7 + IntKind.wrap IntKind.i64 (a5 + a5)), 0)))))))
        else ((groatref11_Value.f ((a1, a2, a3, a4, a5), b77)).bind fun b87 =>
         (if ¬b87 = 0 then (some ((ByteArray.mk #[], 0, b87)))
         else (some ((b77, IntKind.wrap IntKind.i64 (a7 + IntKind.wrap IntKind.i64 (a5 + a5)), 0)))))))))))
     else (if IntKind.wrap IntKind.i64 ((↑(ByteArray.size a6) : Int) - a7) < a5 then (some ((ByteArray.mk #[], 0, 2)))
      else ((ssub a6 a7 (IntKind.wrap IntKind.i64 (a7 + a5))).bind fun b88 =>
       ((((if a0 = 2 then (some (decide (a2 = 1)))
        else (some false)) : Option Bool)).bind fun b89 =>
       (if b89 = true then ((groatref03_Get.f (b88, a5)).bind fun b90 =>
        (if ¬Prod.fst (Prod.snd b90) = 0 then (some ((ByteArray.mk #[], 0, Prod.fst (Prod.snd b90))))
        else ((((if a0 = 1 then (some (decide (a2 ≥ 5)))
          else (some false)) : Option Bool)).bind fun b91 =>
         (if b91 = true then ((groatref02_Get.f (Prod.fst b90)).bind fun b92 =>
          (if ¬Prod.snd (Prod.snd b92) = true then (some ((ByteArray.mk #[], 0, 3)))
          else ((groatref11_Value.f ((a1, a2, a3, a4, a5), Prod.fst b92)).bind fun b93 =>
           (if ¬b93 = 0 then (some ((ByteArray.mk #[], 0, b93)))
           else (some ((Prod.fst b92, IntKind.wrap IntKind.i64 (a7 + a5), 0)))))))
         else ((groatref11_Value.f ((a1, a2, a3, a4, a5), Prod.fst b90)).bind fun b94 =>
          (if ¬b94 = 0 then (some ((ByteArray.mk #[], 0, b94)))
          else (some ((Prod.fst b90, IntKind.wrap IntKind.i64 (a7 + a5), 0)))))))))
       else ((((if a0 = 1 then (some (decide (a2 ≥ 5)))
         else (some false)) : Option Bool)).bind fun b95 =>
        (if b95 = true then ((groatref02_Get.f b88).bind fun b96 =>
         (if ¬Prod.snd (Prod.snd b96) = true then (some ((ByteArray.mk #[], 0, 3)))
         else ((groatref11_Value.f ((a1, a2, a3, a4, a5), Prod.fst b96)).bind fun b97 =>
          (if ¬b97 = 0 then (some ((ByteArray.mk #[], 0, b97)))
          else (some ((Prod.fst b96, IntKind.wrap IntKind.i64 (a7 + a5), 0)))))))
        else ((groatref11_Value.f ((a1, a2, a3, a4, a5), b88)).bind fun b98 =>
         (if ¬b98 = 0 then (some ((ByteArray.mk #[], 0, b98)))
         else (some ((b88, IntKind.wrap IntKind.i64 (a7 + a5), 0))))))))))))))))))
noncomputable def groatref12_Get.c : Con := ⟨73, groatref12_Get.sg, groatref12_Get.rs, groatref12_Get.f⟩
theorem groatref12_Get.con : ConOk Try.prog groatref12_Get.c := walked (C := groatref12_Get.C) rfl (by kernel_rfl) (by kernel_rfl) (by kernel_rfl) rfl ⟨groatref11_Value.con, groatref03_Get.con, groatref11_Check.con, groatref07_Get.con, groatref02_Get.con, trivial⟩ fun ⟨a0, ⟨⟨a1, ⟨a2, ⟨a3, ⟨a4, a5⟩⟩⟩⟩, ⟨a6, a7⟩⟩⟩ y h => ⟨0, (groatref12_Get.eq 0 a0 a1 a2 a3 a4 a5 a6 a7).trans h⟩
theorem groatref12_Get (st no c fo mi ma : Int) (b : List UInt8) (hb : b.length ≤ 1000000000000) (a : Int) : groatref12_Get.f (st, (no, c, fo, mi, ma), sb b, a) = some (strR (cellGet st no c fo mi ma b a)) := by
  have K : ((if ¬st = 1 then (if ¬st = 2 then some true else ((groatref11_Check.f (no, c, fo, mi, ma)).bind fun b0 => if ¬b0 = 0 then some true else if a < 0 then some true else some (decide (a > ((sb b).size : Int))))) else ((groatref11_Check.f (no, c, fo, mi, ma)).bind fun b1 => if ¬b1 = 0 then some true else if a < 0 then some true else some (decide (a > ((sb b).size : Int))))) : Option Bool) = some (decide (¬ ((st = 1 ∨ st = 2) ∧ specE no c fo mi ma = 0 ∧ 0 ≤ a ∧ a ≤ (b.length : Int)))) := by
    rw [groatref11_Check, Option.bind_some, size_sb]
    by_cases k2 : specE no c fo mi ma = 0
    · rw [if_neg (not_not_intro k2)]
      by_cases k3 : a < 0
      · rw [if_pos k3, decide_eq_true (show ¬ ((st = 1 ∨ st = 2) ∧ specE no c fo mi ma = 0 ∧ 0 ≤ a ∧ a ≤ (b.length : Int)) from fun q => by omega)]
        split
        · split <;> rfl
        · rfl
      · rw [if_neg k3]
        by_cases h1 : st = 1
        · rw [if_neg (not_not_intro h1)]
          congr 1
          exact decide_eq_decide.2 ⟨fun h q => by omega, fun h => by
            rcases Int.lt_or_le (b.length : Int) a with h' | h'
            · exact h'
            · exact absurd ⟨.inl h1, k2, by omega, h'⟩ h⟩
        · rw [if_pos h1]
          by_cases h2 : st = 2
          · rw [if_neg (not_not_intro h2)]
            congr 1
            exact decide_eq_decide.2 ⟨fun h q => by omega, fun h => by
              rcases Int.lt_or_le (b.length : Int) a with h' | h'
              · exact h'
              · exact absurd ⟨.inr h2, k2, by omega, h'⟩ h⟩
          · rw [if_pos h2, decide_eq_true (show ¬ ((st = 1 ∨ st = 2) ∧ specE no c fo mi ma = 0 ∧ 0 ≤ a ∧ a ≤ (b.length : Int)) from fun q => q.1.elim h1 h2)]
    · rw [if_pos k2, decide_eq_true (show ¬ ((st = 1 ∨ st = 2) ∧ specE no c fo mi ma = 0 ∧ 0 ≤ a ∧ a ≤ (b.length : Int)) from fun q => k2 q.2.1)]
      split
      · split <;> rfl
      · rfl
  have p1 : (if st = 2 then some (decide (c = 1)) else some false) = some (decide (st = 2 ∧ c = 1)) := by
    by_cases h : st = 2
    · rw [if_pos h]; congr 1; exact decide_eq_decide.2 ⟨fun q => ⟨h, q⟩, fun q => q.2⟩
    · rw [if_neg h, decide_eq_false (fun q => h q.1)]
  have p2 : (if st = 1 then some (decide (c ≥ 5)) else some false) = some (decide (st = 1 ∧ c ≥ 5)) := by
    by_cases h : st = 1
    · rw [if_pos h]; congr 1; exact decide_eq_decide.2 ⟨fun q => ⟨h, q⟩, fun q => q.2⟩
    · rw [if_neg h, decide_eq_false (fun q => h q.1)]
  simp only [groatref12_Get.f]
  rw [K, Option.bind_some]
  unfold cellGet
  by_cases hk : (st = 1 ∨ st = 2) ∧ specE no c fo mi ma = 0 ∧ 0 ≤ a ∧ a ≤ (b.length : Int)
  · rw [decide_eq_false (not_not_intro hk), if_neg (by simp), if_neg (not_not_intro hk)]
    simp only [p1, p2, Option.bind_some]
    obtain ⟨hs, he, ha0, ha⟩ := hk
    have hE := specE_zero he
    have tail : ∀ (n at_ : Int), 0 ≤ n → n ≤ 999 → 0 ≤ at_ → at_ ≤ (b.length : Int) →
        (st = 2 ∧ c = 1 → refTailA (no, c, fo, mi, ma) (sb b) at_ (IntKind.wrap .i64 (Int.tdiv (IntKind.wrap .i64 (n + 1)) 2)) n = some (strR (cellTake st no c fo mi ma b at_.toNat n.toNat))) ∧
        (st = 1 ∧ c ≥ 5 → refTailB (no, c, fo, mi, ma) (sb b) at_ (IntKind.wrap .i64 (n + n)) = some (strR (cellTake st no c fo mi ma b at_.toNat n.toNat))) ∧
        (¬ (st = 2 ∧ c = 1) → ¬ (st = 1 ∧ c ≥ 5) → refTailC (no, c, fo, mi, ma) (sb b) at_ n = some (strR (cellTake st no c fo mi ma b at_.toNat n.toNat))) := by
      intro n at_ h1 h2 h3 h4
      obtain ⟨n, rfl⟩ := Int.eq_ofNat_of_zero_le h1
      obtain ⟨at_, rfl⟩ := Int.eq_ofNat_of_zero_le h3
      rw [Int.toNat_natCast, Int.toNat_natCast]
      have t1 : IntKind.wrap .i64 (Int.tdiv (IntKind.wrap .i64 ((n : Int) + 1)) 2) = (((n + 1) / 2 : Nat) : Int) := by
        rw [wrap_succ (by omega), show Int.tdiv ((n + 1 : Nat) : Int) 2 = (((n + 1) / 2 : Nat) : Int) from tdiv_nat (n + 1) 2, wrap_nat (by omega)]
      refine ⟨fun k => ?_, fun k => ?_, fun k k' => ?_⟩
      · have hh : cellHow st c = 1 := by unfold cellHow; rw [if_pos k]
        exact (refTail_eq st no c fo mi ma b hb at_ n (by omega) (by omega) _ (by rw [t1, hh]; rfl)).1 hh
      · have hh : cellHow st c = 2 := by
          unfold cellHow
          rw [if_neg (show ¬ (st = 2 ∧ c = 1) by omega), if_pos (show st = 1 ∧ (c = 5 ∨ c = 6) by omega)]
        exact (refTail_eq st no c fo mi ma b hb at_ n (by omega) (by omega) _ (by rw [wrap_id (by omega) (by omega), hh]; show (n : Int) + (n : Int) = ((2 * n : Nat) : Int); omega)).2.1 hh
      · have hh : cellHow st c = 0 := by
          unfold cellHow
          rw [if_neg k, if_neg (show ¬ (st = 1 ∧ (c = 5 ∨ c = 6)) by omega)]
        exact (refTail_eq st no c fo mi ma b hb at_ n (by omega) (by omega) _ (by rw [hh]; rfl)).2.2 hh
    by_cases k1 : fo = 1
    · rw [if_neg (not_not_intro k1), if_pos k1]
      have hmm : ma = mi := (hE.2.2.2.2.2.2.2.1 k1).symm
      obtain ⟨tA, tB, tC⟩ := tail ma a (by omega) (by omega) ha0 ha
      rw [hmm] at tA tB tC ⊢
      by_cases q1 : st = 2 ∧ c = 1
      · have q2 : ¬ (st = 1 ∧ c ≥ 5) := by omega
        simp only [decide_eq_true q1, decide_eq_false q2, if_true, if_false, Bool.false_eq_true]
        exact tA q1
      · by_cases q2 : st = 1 ∧ c ≥ 5
        · simp only [decide_eq_false q1, decide_eq_true q2, if_true, if_false, Bool.false_eq_true]
          exact tB q2
        · simp only [decide_eq_false q1, decide_eq_false q2, if_true, if_false, Bool.false_eq_true]
          exact tC q1 q2
    · rw [if_pos k1, if_neg k1, groatref07_Get st fo b hb a, Option.bind_some]
      by_cases k2 : (preGet st fo b a).2.2 = 0
      · rw [if_neg (not_not_intro k2), if_neg (not_not_intro k2)]
        obtain ⟨-, -, hnx, hle, h0, hm, -⟩ := prePut_get (style := st) (form := fo) (b := b) (at_ := a) (n := (preGet st fo b a).1) (next := (preGet st fo b a).2.1) (by rw [← k2])
        have g2 : (if (preGet st fo b a).1 < mi then some true else some (decide ((preGet st fo b a).1 > ma))) = some (decide ((preGet st fo b a).1 < mi ∨ ma < (preGet st fo b a).1)) := by
          by_cases q : (preGet st fo b a).1 < mi
          · rw [if_pos q, decide_eq_true (show (preGet st fo b a).1 < mi ∨ ma < (preGet st fo b a).1 from .inl q)]
          · rw [if_neg q]
            congr 1
            exact decide_eq_decide.2 ⟨.inr, fun h => h.elim (fun h => absurd h q) id⟩
        rw [g2, Option.bind_some]
        by_cases k3 : (preGet st fo b a).1 < mi ∨ ma < (preGet st fo b a).1
        · rw [decide_eq_true k3, if_pos rfl, if_pos k3]; rfl
        · rw [decide_eq_false k3, if_neg (by simp), if_neg k3]
          obtain ⟨tA, tB, tC⟩ := tail (preGet st fo b a).1 (preGet st fo b a).2.1 h0 (by omega) (by omega) hle
          by_cases q1 : st = 2 ∧ c = 1
          · have q2 : ¬ (st = 1 ∧ c ≥ 5) := by omega
            simp only [decide_eq_true q1, decide_eq_false q2, if_true, if_false, Bool.false_eq_true]
            exact tA q1
          · by_cases q2 : st = 1 ∧ c ≥ 5
            · simp only [decide_eq_false q1, decide_eq_true q2, if_true, if_false, Bool.false_eq_true]
              exact tB q2
            · simp only [decide_eq_false q1, decide_eq_false q2, if_true, if_false, Bool.false_eq_true]
              exact tC q1 q2
      · rw [if_pos k2, if_pos k2]; rfl
  · rw [decide_eq_true hk, if_pos rfl, if_pos hk]; rfl
end Go.Proofs.Ytjbhknfdfnilbaa.Xe
