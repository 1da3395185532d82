/- What the program's prefix.Get and cell.Get answer. -/
import Derived.Test.YtkaihbkfobiejaaGreatDoorEgd
import Derived.Test.YtkaihbkfobiejaaGreatDoorEgc
import Derived.Test.YtkaihbkfobiejaaGreatDoorEgc
import Derived.Test.YtkaihbkfobiejaaGreatDoorEgc
import Derived.Test.YtkaihbkfobiejaaGreatDoorEgb
import Derived.Test.YtkaihbkfobiejaaGreatDoorEhx
import Derived.Test.YtkaihbkfobiejaaGreatDoorNgc
namespace Go.Proofs.YtkaihbkfobiejaaGreatDoor.Xe
open Go Go.RowKit Go.Proofs.YtkaihbkfobiejaaGreatDoor.Sp
set_option linter.unusedVariables false
set_option linter.unusedSimpArgs false
set_option maxRecDepth 100000
theorem ssub_at (b : List UInt8) (p n : Nat) (h : p + n ≤ b.length) (hb : b.length ≤ 1000000000000) : ssub (sb b) (p : Int) (IntKind.wrap .i64 ((p : Int) + (n : Int))) = some (sb ((b.drop p).take n)) := by
  rw [wrap_id (by omega) (by omega), show (p : Int) + (n : Int) = ((p + n : Nat) : Int) by omega, ssub_sb _ _ _ (by omega) h]
  congr 2
  rw [List.drop_take, Nat.add_sub_cancel_left]
/-- What is read of a length. -/
noncomputable def preTailG (s f : Int) (b : ByteArray) (a z : Int) : Option (Int × Int × Int) :=
  if IntKind.wrap IntKind.i64 ((b.size : Int) - a) < z then some (0, 0, 2)
  else (ssub b a (IntKind.wrap IntKind.i64 (a + z))).bind fun b3 =>
    if s = 2 then (prefix_width.f f).bind fun b4 => (bcd_Get.f (b3, b4)).bind fun b5 =>
      if ¬Prod.fst (Prod.snd b5) = 0 then some (0, 0, 3)
      else (digits_Get.f (Prod.fst b5)).bind fun b6 => if ¬Prod.snd b6 = true then some (0, 0, 3) else some (Prod.fst b6, IntKind.wrap IntKind.i64 (a + z), 0)
    else (digits_Get.f b3).bind fun b7 => if ¬Prod.snd b7 = true then some (0, 0, 3) else some (Prod.fst b7, IntKind.wrap IntKind.i64 (a + z), 0)
theorem preTailG_eq (s f : Int) (b : List UInt8) (hb : b.length ≤ 1000000000000) (a : Nat) (ha : a ≤ b.length) (hk : preOk s f = true) : preTailG s f (sb b) (a : Int) (preSize s f : Int) = some (preGet s f b (a : Int)) := by
  obtain ⟨hs, hf⟩ := preOk_iff hk
  have hz : preSize s f ≤ 3 := by unfold preSize; split <;> omega
  have hw : prefix_width.f f = some f := by unfold prefix_width.f; rw [if_pos hf]
  unfold preTailG preGet
  rw [if_pos (show preOk s f = true ∧ 0 ≤ (a : Int) ∧ (a : Int) ≤ (b.length : Int) from ⟨hk, by omega, by omega⟩), size_sb, wrap_id (by omega) (by omega), Int.toNat_natCast]
  by_cases c1 : (b.length : Int) - (a : Int) < (preSize s f : Int)
  · rw [if_pos c1, if_pos c1]
  rw [if_neg c1, if_neg c1, ssub_at b a _ (by omega) hb, Option.bind_some, wrap_id (by omega) (by omega)]
  unfold preDigits
  by_cases c2 : s = 2
  · rw [if_pos c2, if_pos c2, hw, Option.bind_some, bcd_Get, Option.bind_some]
    dsimp only
    by_cases c3 : (bcdGet ((b.drop a).take (preSize s f)) f).2.1 = 0
    · rw [if_neg (not_not_intro c3), if_pos c3, digits_Get, Option.bind_some]
      by_cases c4 : (getNum (bcdGet ((b.drop a).take (preSize s f)) f).1).2 = true
      · rw [if_neg (not_not_intro c4), if_pos c4]
      · rw [if_pos c4, if_neg c4]
    · rw [if_pos c3, if_neg c3]
  · rw [if_neg c2, if_neg c2, digits_Get, Option.bind_some]
    dsimp only
    rw [if_pos rfl]
    by_cases c4 : (getNum ((b.drop a).take (preSize s f))).2 = true
    · rw [if_neg (not_not_intro c4), if_pos c4]
    · rw [if_pos c4, if_neg c4]
/-! ### prefix_Get -/
@[reducible] def prefix_Get.sg : List Shp := [.v (.int .i64), .v (.int .i64), .v (.str), .v (.int .i64)]
@[reducible] def prefix_Get.rs : Rs := .tup [.v (.int .i64), .v (.int .i64), .v (.int .i64)]
@[reducible] noncomputable def prefix_Get.code : Code := Tryz.f94.body.getD .skip
noncomputable def prefix_Get.C : Ctx := ⟨tab, [bcd_Size.c, bcd_Get.c, prefix_known.c, prefix_width.c, digits_Get.c], [], ⟨[], []⟩⟩
theorem prefix_Get.eq (n : Nat) (a0 : Int) (a1 : Int) (a2 : ByteArray) (a3 : Int) : call prefix_Get.C Tryz.f94 prefix_Get.code prefix_Get.sg prefix_Get.rs n (a0, (a1, (a2, a3))) =
  ((prefix_known.f (a0, a1)).bind fun b0 =>
  (if ¬b0 = true then (some ((0, 0, 1)))
  else (if a3 < 0 then (some ((0, 0, 1)))
   else (if a3 > (↑(ByteArray.size a2) : Int) then (some ((0, 0, 1)))
    else ((prefix_width.f a1).bind fun b1 =>
     (if a0 = 2 then ((bcd_Size.f b1).bind fun b2 =>
      (if IntKind.wrap IntKind.i64 ((↑(ByteArray.size a2) : Int) - a3) < b2 then (some ((0, 0, 2)))
      else ((ssub a2 a3 (IntKind.wrap IntKind.i64 (a3 + b2))).bind fun b3 =>
       (if a0 = 2 then ((prefix_width.f a1).bind fun b4 =>
        ((bcd_Get.f (b3, b4)).bind fun b5 =>
        (if ¬Prod.fst (Prod.snd b5) = 0 then (some ((0, 0, 3)))
        else ((digits_Get.f (Prod.fst b5)).bind fun b6 =>
         (if ¬Prod.snd b6 = true then (some ((0, 0, 3)))
         else (some ((Prod.fst b6, IntKind.wrap IntKind.i64 (a3 + b2), 0))))))))
       else ((digits_Get.f b3).bind fun b7 =>
        (if ¬Prod.snd b7 = true then (some ((0, 0, 3)))
        else (some ((Prod.fst b7, IntKind.wrap IntKind.i64 (a3 + b2), 0)))))))))
     else (if IntKind.wrap IntKind.i64 ((↑(ByteArray.size a2) : Int) - a3) < b1 then (some ((0, 0, 2)))
      else ((ssub a2 a3 (IntKind.wrap IntKind.i64 (a3 + b1))).bind fun b8 =>
       (if a0 = 2 then ((prefix_width.f a1).bind fun b9 =>
        ((bcd_Get.f (b8, b9)).bind fun b10 =>
        (if ¬Prod.fst (Prod.snd b10) = 0 then (some ((0, 0, 3)))
        else ((digits_Get.f (Prod.fst b10)).bind fun b11 =>
         (if ¬Prod.snd b11 = true then (some ((0, 0, 3)))
         else (some ((Prod.fst b11, IntKind.wrap IntKind.i64 (a3 + b1), 0))))))))
       else ((digits_Get.f b8).bind fun b12 =>
        (if ¬Prod.snd b12 = true then (some ((0, 0, 3)))
        else (some ((Prod.fst b12, IntKind.wrap IntKind.i64 (a3 + b1), 0)))))))))))))) := by kernel_rfl
noncomputable def prefix_Get.f : El (sgTy prefix_Get.sg) → Option (El prefix_Get.rs.ty) := fun x => match x with
  | (a0, (a1, (a2, a3))) =>
  ((prefix_known.f (a0, a1)).bind fun b0 =>
  (if ¬b0 = true then (some ((0, 0, 1)))
  else (if a3 < 0 then (some ((0, 0, 1)))
   else (if a3 > (↑(ByteArray.size a2) : Int) then (some ((0, 0, 1)))
    else ((prefix_width.f a1).bind fun b1 =>
     (if a0 = 2 then ((bcd_Size.f b1).bind fun b2 =>
      (if IntKind.wrap IntKind.i64 ((↑(ByteArray.size a2) : Int) - a3) < b2 then (some ((0, 0, 2)))
      else ((ssub a2 a3 (IntKind.wrap IntKind.i64 (a3 + b2))).bind fun b3 =>
       (if a0 = 2 then ((prefix_width.f a1).bind fun b4 =>
        ((bcd_Get.f (b3, b4)).bind fun b5 =>
        (if ¬Prod.fst (Prod.snd b5) = 0 then (some ((0, 0, 3)))
        else ((digits_Get.f (Prod.fst b5)).bind fun b6 =>
         (if ¬Prod.snd b6 = true then (some ((0, 0, 3)))
         else (some ((Prod.fst b6, IntKind.wrap IntKind.i64 (a3 + b2), 0))))))))
       else ((digits_Get.f b3).bind fun b7 =>
        (if ¬Prod.snd b7 = true then (some ((0, 0, 3)))
        else (some ((Prod.fst b7, IntKind.wrap IntKind.i64 (a3 + b2), 0)))))))))
     else (if IntKind.wrap IntKind.i64 ((↑(ByteArray.size a2) : Int) - a3) < b1 then (some ((0, 0, 2)))
      else ((ssub a2 a3 (IntKind.wrap IntKind.i64 (a3 + b1))).bind fun b8 =>
       (if a0 = 2 then ((prefix_width.f a1).bind fun b9 =>
        ((bcd_Get.f (b8, b9)).bind fun b10 =>
        (if ¬Prod.fst (Prod.snd b10) = 0 then (some ((0, 0, 3)))
        else ((digits_Get.f (Prod.fst b10)).bind fun b11 =>
         (if ¬Prod.snd b11 = true then (some ((0, 0, 3)))
         else (some ((Prod.fst b11, IntKind.wrap IntKind.i64 (a3 + b1), 0))))))))
       else ((digits_Get.f b8).bind fun b12 =>
        (if ¬Prod.snd b12 = true then (some ((0, 0, 3)))
        else (some ((Prod.fst b12, IntKind.wrap IntKind.i64 (a3 + b1), 0))))))))))))))
noncomputable def prefix_Get.c : Con := ⟨94, prefix_Get.sg, prefix_Get.rs, prefix_Get.f⟩
theorem prefix_Get.con : ConOk Tryz.prog prefix_Get.c := walked (C := prefix_Get.C) rfl (by kernel_rfl) (by kernel_rfl) (by kernel_rfl) rfl ⟨bcd_Size.con, bcd_Get.con, prefix_known.con, prefix_width.con, digits_Get.con, trivial⟩ fun ⟨a0, ⟨a1, ⟨a2, a3⟩⟩⟩ y h => ⟨0, (prefix_Get.eq 0 a0 a1 a2 a3).trans h⟩
theorem prefix_Get (s f : Int) (b : List UInt8) (hb : b.length ≤ 1000000000000) (a : Int) : prefix_Get.f (s, f, sb b, a) = some (preGet s f b a) := by
  have hno : ¬ (preOk s f = true ∧ 0 ≤ a ∧ a ≤ (b.length : Int)) → preGet s f b a = (0, 0, 1) := fun h => by unfold preGet; rw [if_neg h]
  simp only [prefix_Get.f]
  rw [prefix_known, Option.bind_some]
  by_cases hk : preOk s f = true
  · rw [if_neg (not_not_intro hk)]
    by_cases c1 : a < 0
    · rw [if_pos c1, hno (by omega)]
    rw [if_neg c1, size_sb]
    by_cases c2 : a > (b.length : Int)
    · rw [if_pos c2, hno (by omega)]
    rw [if_neg c2]
    obtain ⟨a, rfl⟩ := Int.eq_ofNat_of_zero_le (show 0 ≤ a by omega)
    have hf := (preOk_iff hk).2
    have hw : prefix_width.f f = some f := by unfold prefix_width.f; rw [if_pos hf]
    have key := preTailG_eq s f b hb a (by omega) hk
    unfold preTailG at key
    rw [size_sb] at key
    have hz : (preSize s f : Int) = if s = 2 then (((f.toNat + 1) / 2 : Nat) : Int) else f := by unfold preSize; split <;> omega
    rw [hw, Option.bind_some]
    by_cases c3 : s = 2
    · rw [if_pos c3] at hz
      have hb2 : bcd_Size.f f = some (preSize s f : Int) := by
        have := bcd_Size f.toNat (by omega)
        rw [show ((f.toNat : Nat) : Int) = f by omega] at this
        rw [this, hz]
      rw [hw] at key
      rw [if_pos c3, hb2, Option.bind_some]
      exact key
    · rw [if_neg c3] at hz
      rw [hw, hz] at key
      rw [if_neg c3]
      exact key
  · rw [if_pos hk, hno (fun q => hk q.1)]
/-- What is read of a value. -/
noncomputable def cellTailG (st : Int) (q : Int × Int × Int × Int × Int) (b : ByteArray) (a z n : Int) : Option (ByteArray × Int × Int) :=
  if IntKind.wrap IntKind.i64 ((b.size : Int) - a) < z then some (ByteArray.mk #[], 0, 2)
  else (ssub b a (IntKind.wrap IntKind.i64 (a + z))).bind fun b7 => (cell_how.f (st, q.2.1)).bind fun b8 =>
    if b8 = 1 then (bcd_Get.f (b7, n)).bind fun b9 =>
      if ¬Prod.fst (Prod.snd b9) = 0 then some (ByteArray.mk #[], 0, Prod.fst (Prod.snd b9))
      else (spec_Value.f (q, Prod.fst b9)).bind fun b10 => if ¬b10 = 0 then some (ByteArray.mk #[], 0, b10) else some (Prod.fst b9, IntKind.wrap IntKind.i64 (a + z), 0)
    else if b8 = 2 then (hexa_Get.f b7).bind fun b11 =>
      if ¬Prod.snd (Prod.snd b11) = true then some (ByteArray.mk #[], 0, 3)
      else (spec_Value.f (q, Prod.fst b11)).bind fun b12 => if ¬b12 = 0 then some (ByteArray.mk #[], 0, b12) else some (Prod.fst b11, IntKind.wrap IntKind.i64 (a + z), 0)
    else (spec_Value.f (q, b7)).bind fun b13 => if ¬b13 = 0 then some (ByteArray.mk #[], 0, b13) else some (b7, IntKind.wrap IntKind.i64 (a + z), 0)
def str3 (x : List UInt8 × Int × Int) : ByteArray × Int × Int := (sb x.1, x.2.1, x.2.2)
theorem bcdGet_len (b : List UInt8) (n : Int) : (bcdGet b n).1.length ≤ 999 := by
  by_cases h : (bcdGet b n).2.1 = 0
  · obtain ⟨-, h0, h1, -, h2, -⟩ := bcdGet_ok (b := b) (n := n) (r := (bcdGet b n).1) (p := (bcdGet b n).2.2) (by rw [← h])
    omega
  · rw [bcdGet_no h]; simp
theorem hexGet_len (b : List UInt8) : (hexGet b).1.length ≤ b.length + 1 := by
  by_cases h : (hexGet b).2.2 = true
  · have := congrArg List.length (hexGet_ok (l := b) (r := (hexGet b).1) (n := (hexGet b).2.1) (by rw [← h])).2
    rw [hexPut_length] at this
    omega
  · rw [(hexGet_no (by simpa using h)).1]; simp
theorem cellTailG_eq (st no c fo mi ma : Int) (b : List UInt8) (hb : b.length ≤ 1000000000000) (a n : Nat) (ha : a ≤ b.length) (hn : n ≤ 999) : cellTailG st (no, c, fo, mi, ma) (sb b) (a : Int) (cellSize (cellHow st c) n : Int) (n : Int) = some (str3 (cellTake st no c fo mi ma b a n)) := by
  have hz : cellSize (cellHow st c) n ≤ 2000 := by
    unfold cellSize
    split
    · omega
    · split <;> omega
  unfold cellTailG cellTake
  rw [size_sb, wrap_id (by omega) (by omega)]
  by_cases c1 : (b.length : Int) - (a : Int) < (cellSize (cellHow st c) n : Int)
  · rw [if_pos c1, if_pos c1]; rfl
  rw [if_neg c1, if_neg c1, ssub_at b a _ (by omega) hb, Option.bind_some, show cell_how.f (st, (no, c, fo, mi, ma).2.1) = some (cellHow st c) from cell_how st c, Option.bind_some, wrap_id (by omega) (by omega), show (a : Int) + (cellSize (cellHow st c) n : Int) = ((a + cellSize (cellHow st c) n : Nat) : Int) by omega]
  generalize hraw : (b.drop a).take (cellSize (cellHow st c) n) = raw
  have hrl : raw.length ≤ 2000 := by rw [← hraw, List.length_take]; omega
  unfold cellText
  by_cases k1 : cellHow st c = 1
  · have hl := bcdGet_len raw n
    rw [if_pos k1, if_pos k1, bcd_Get, Option.bind_some]
    dsimp only
    by_cases k2 : (bcdGet raw n).2.1 = 0
    · rw [if_neg (not_not_intro k2), if_neg (not_not_intro k2), spec_Value no c fo mi ma _ (by omega), Option.bind_some]
      by_cases k3 : specV no c fo mi ma (bcdGet raw n).1 = 0
      · rw [if_neg (not_not_intro k3), if_neg (not_not_intro k3)]; rfl
      · rw [if_pos k3, if_pos k3]; rfl
    · rw [if_pos k2, if_pos k2]; rfl
  rw [if_neg k1, if_neg k1]
  by_cases k2 : cellHow st c = 2
  · have hl := hexGet_len raw
    rw [if_pos k2, if_pos k2, hexa_Get raw (by omega), Option.bind_some]
    dsimp only
    by_cases k3 : (hexGet raw).2.2 = true
    · rw [if_neg (not_not_intro k3), if_pos k3, if_neg (not_not_intro rfl), spec_Value no c fo mi ma _ (by omega), Option.bind_some]
      by_cases k4 : specV no c fo mi ma (hexGet raw).1 = 0
      · rw [if_neg (not_not_intro k4), if_neg (not_not_intro k4)]; rfl
      · rw [if_pos k4, if_pos k4]; rfl
    · rw [if_pos k3, if_neg k3, if_pos (by decide)]; rfl
  · rw [if_neg k2, if_neg k2, spec_Value no c fo mi ma _ (by omega), Option.bind_some]
    dsimp only
    rw [if_neg (not_not_intro rfl)]
    by_cases k4 : specV no c fo mi ma raw = 0
    · rw [if_neg (not_not_intro k4), if_neg (not_not_intro k4)]; rfl
    · rw [if_pos k4, if_pos k4]; rfl
theorem cellSize_g (st no c fo mi ma : Int) (b : List UInt8) (hb : b.length ≤ 1000000000000) (a : Int) (ha0 : 0 ≤ a) (ha : a ≤ (b.length : Int)) (n : Int) (hn0 : 0 ≤ n) (hn : n ≤ 999) :
    ((cell_how.f (st, c)).bind fun b5 => if b5 = 1 then (bcd_Size.f n).bind fun b6 => cellTailG st (no, c, fo, mi, ma) (sb b) a b6 n
      else if b5 = 2 then cellTailG st (no, c, fo, mi, ma) (sb b) a (IntKind.wrap IntKind.i64 (2 * n)) n
      else cellTailG st (no, c, fo, mi, ma) (sb b) a n n) = some (str3 (cellTake st no c fo mi ma b a.toNat n.toNat)) := by
  obtain ⟨a, rfl⟩ := Int.eq_ofNat_of_zero_le ha0
  obtain ⟨n, rfl⟩ := Int.eq_ofNat_of_zero_le hn0
  have key := cellTailG_eq st no c fo mi ma b hb a n (by omega) (by omega)
  rw [show cell_how.f (st, c) = some (cellHow st c) from cell_how st c, Option.bind_some, Int.toNat_natCast, Int.toNat_natCast, ← key]
  unfold cellSize
  by_cases k1 : cellHow st c = 1
  · rw [if_pos k1, if_pos k1, bcd_Size n (by omega), Option.bind_some]
  rw [if_neg k1, if_neg k1]
  by_cases k2 : cellHow st c = 2
  · rw [if_pos k2, if_pos k2, wrap_id (by omega) (by omega)]; rfl
  · rw [if_neg k2, if_neg k2]
/-! ### cell_Get -/
@[reducible] def cell_Get.sg : List Shp := [.v (.int .i64), .a (.pair (.int .i64) (.pair (.int .i64) (.pair (.int .i64) (.pair (.int .i64) (.int .i64))))), .v (.str), .v (.int .i64)]
@[reducible] def cell_Get.rs : Rs := .tup [.v (.str), .v (.int .i64), .v (.int .i64)]
@[reducible] noncomputable def cell_Get.code : Code := Tryz.f47.body.getD .skip
noncomputable def cell_Get.C : Ctx := ⟨tab, [cell_known.c, spec_Value.c, cell_how.c, spec_Check.c, prefix_Get.c, bcd_Size.c, bcd_Get.c, hexa_Get.c], [], ⟨[], [(1, [(39, .bool)]), (9, [(67, .bool)])]⟩⟩
theorem cell_Get.eq (n : Nat) (a0 : Int) (a1 : Int) (a2 : Int) (a3 : Int) (a4 : Int) (a5 : Int) (a6 : ByteArray) (a7 : Int) : call cell_Get.C Tryz.f47 cell_Get.code cell_Get.sg cell_Get.rs n (a0, ((a1, (a2, (a3, (a4, a5)))), (a6, a7))) =
  (((((cell_known.f a0).bind fun b0 =>
   (if ¬b0 = true then (some true)
   else ((spec_Check.f (a1, a2, a3, a4, a5)).bind fun b1 =>
    (if ¬b1 = 0 then (some true)
    else (if a7 < 0 then (some true)
     else (some (decide (a7 > (↑(ByteArray.size a6) : Int))))))))) : Option Bool)).bind fun b2 =>
  (if b2 = true then (some ((ByteArray.mk #[], 0, 1)))
  else (if ¬a3 = 1 then ((prefix_Get.f (a0, a3, a6, a7)).bind fun b3 =>
    (if ¬Prod.snd (Prod.snd b3) = 0 then (some ((ByteArray.mk #[], 0, Prod.snd (Prod.snd b3))))
    else ((((if Prod.fst b3 < a4 then (some true)
      else (some (decide (Prod.fst b3 > a5)))) : Option Bool)).bind fun b4 =>
     (if b4 = true then (some ((ByteArray.mk #[], 0, 5)))
     else ((cell_how.f (a0, a2)).bind fun b5 =>
      (if b5 = 1 then ((bcd_Size.f (Prod.fst b3)).bind fun b6 =>
       (if IntKind.wrap IntKind.i64 ((↑(ByteArray.size a6) : Int) - Prod.fst (Prod.snd b3)) < b6 then (some ((ByteArray.mk #[], 0, 2)))
       else ((ssub a6 (Prod.fst (Prod.snd b3)) (IntKind.wrap IntKind.i64 (Prod.fst (Prod.snd b3) + b6))).bind fun b7 =>
        ((cell_how.f (a0, a2)).bind fun b8 =>
        (if b8 = 1 then ((bcd_Get.f (b7, Prod.fst b3)).bind fun b9 =>
         (if ¬Prod.fst (Prod.snd b9) = 0 then (some ((ByteArray.mk #[], 0, Prod.fst (Prod.snd b9))))
         else ((spec_Value.f ((a1, a2, a3, a4, a5), Prod.fst b9)).bind fun b10 =>
          (if ¬b10 = 0 then (some ((ByteArray.mk #[], 0, b10)))
          else (some ((Prod.fst b9, IntKind.wrap IntKind.i64 (Prod.fst (Prod.snd b3) + b6), 0)))))))
        else (if b8 = 2 then ((hexa_Get.f b7).bind fun b11 =>
          (if ¬Prod.snd (Prod.snd b11) = true then (some ((ByteArray.mk #[], 0, 3)))
          else ((spec_Value.f ((a1, a2, a3, a4, a5), Prod.fst b11)).bind fun b12 =>
           (if ¬b12 = 0 then (some ((ByteArray.mk #[], 0, b12)))
           else (some ((Prod.fst b11, IntKind.wrap IntKind.i64 (Prod.fst (Prod.snd b3) + b6), 0)))))))
         else ((spec_Value.f ((a1, a2, a3, a4, a5), b7)).bind fun b13 =>
          (if ¬b13 = 0 then (some ((ByteArray.mk #[], 0, b13)))
          else (some ((b7, IntKind.wrap IntKind.i64 (Prod.fst (Prod.snd b3) + b6), 0)))))))))))
      else (if b5 = 2 then (if IntKind.wrap IntKind.i64 ((↑(ByteArray.size a6) : Int) - Prod.fst (Prod.snd b3)) < IntKind.wrap IntKind.i64 (2 * Prod.fst b3) then (some ((ByteArray.mk #[], 0, 2)))
        else ((ssub a6 (Prod.fst (Prod.snd b3)) (IntKind.wrap IntKind.i64 (Prod.fst (Prod.snd b3) + IntKind.wrap IntKind.i64 (2 * Prod.fst b3)))).bind fun b14 =>
         ((cell_how.f (a0, a2)).bind fun b15 =>
         (if b15 = 1 then ((bcd_Get.f (b14, Prod.fst b3)).bind fun b16 =>
          (if ¬Prod.fst (Prod.snd b16) = 0 then (some ((ByteArray.mk #[], 0, Prod.fst (Prod.snd b16))))
          else ((spec_Value.f ((a1, a2, a3, a4, a5), Prod.fst b16)).bind fun b17 =>
           (if ¬b17 = 0 then (some ((ByteArray.mk #[], 0, b17)))
           else (some ((Prod.fst b16, IntKind.wrap IntKind.i64 (Prod.fst (Prod.snd b3) + IntKind.wrap IntKind.i64 (2 * Prod.fst b3)), 0)))))))
         else (if b15 = 2 then ((hexa_Get.f b14).bind fun b18 =>
           (if ¬Prod.snd (Prod.snd b18) = true then (some ((ByteArray.mk #[], 0, 3)))
           else ((spec_Value.f ((a1, a2, a3, a4, a5), Prod.fst b18)).bind fun b19 =>
            (if ¬b19 = 0 then (some ((ByteArray.mk #[], 0, b19)))
            else (some ((Prod.fst b18, IntKind.wrap IntKind.i64 (Prod.fst (Prod.snd b3) + IntKind.wrap IntKind.i64 (2 * Prod.fst b3)), 0)))))))
          else ((spec_Value.f ((a1, a2, a3, a4, a5), b14)).bind fun b20 =>
           (if ¬b20 = 0 then (some ((ByteArray.mk #[], 0, b20)))
           else (some ((b14, IntKind.wrap IntKind.i64 (Prod.fst (Prod.snd b3) + IntKind.wrap IntKind.i64 (2 * Prod.fst b3)), 0))))))))))
       else (if IntKind.wrap IntKind.i64 ((↑(ByteArray.size a6) : Int) - Prod.fst (Prod.snd b3)) < Prod.fst b3 then (some ((ByteArray.mk #[], 0, 2)))
        else ((ssub a6 (Prod.fst (Prod.snd b3)) (IntKind.wrap IntKind.i64 (Prod.fst (Prod.snd b3) + Prod.fst b3))).bind fun b21 =>
         ((cell_how.f (a0, a2)).bind fun b22 =>
         (if b22 = 1 then ((bcd_Get.f (b21, Prod.fst b3)).bind fun b23 =>
          (if ¬Prod.fst (Prod.snd b23) = 0 then (some ((ByteArray.mk #[], 0, Prod.fst (Prod.snd b23))))
          else ((spec_Value.f ((a1, a2, a3, a4, a5), Prod.fst b23)).bind fun b24 =>
           (if ¬b24 = 0 then (some ((ByteArray.mk #[], 0, b24)))
           else (some ((Prod.fst b23, IntKind.wrap IntKind.i64 (Prod.fst (Prod.snd b3) + Prod.fst b3), 0)))))))
         else (if b22 = 2 then ((hexa_Get.f b21).bind fun b25 =>
           (if ¬Prod.snd (Prod.snd b25) = true then (some ((ByteArray.mk #[], 0, 3)))
           else ((spec_Value.f ((a1, a2, a3, a4, a5), Prod.fst b25)).bind fun b26 =>
            (if ¬b26 = 0 then (some ((ByteArray.mk #[], 0, b26)))
            else (some ((Prod.fst b25, IntKind.wrap IntKind.i64 (Prod.fst (Prod.snd b3) + Prod.fst b3), 0)))))))
          else ((spec_Value.f ((a1, a2, a3, a4, a5), b21)).bind fun b27 =>
           (if ¬b27 = 0 then (some ((ByteArray.mk #[], 0, b27)))
           else (some ((b21, IntKind.wrap IntKind.i64 (Prod.fst (Prod.snd b3) + Prod.fst b3), 0)))))))))))))))))
   else ((cell_how.f (a0, a2)).bind fun b28 =>
    (if b28 = 1 then ((bcd_Size.f a4).bind fun b29 =>
     (if IntKind.wrap IntKind.i64 ((↑(ByteArray.size a6) : Int) - a7) < b29 then (some ((ByteArray.mk #[], 0, 2)))
     else ((ssub a6 a7 (IntKind.wrap IntKind.i64 (a7 + b29))).bind fun b30 =>
      ((cell_how.f (a0, a2)).bind fun b31 =>
      (if b31 = 1 then ((bcd_Get.f (b30, a4)).bind fun b32 =>
       (if ¬Prod.fst (Prod.snd b32) = 0 then (some ((ByteArray.mk #[], 0, Prod.fst (Prod.snd b32))))
       else ((spec_Value.f ((a1, a2, a3, a4, a5), Prod.fst b32)).bind fun b33 =>
        (if ¬b33 = 0 then (some ((ByteArray.mk #[], 0, b33)))
        else (some ((Prod.fst b32, IntKind.wrap IntKind.i64 (a7 + b29), 0)))))))
      else (if b31 = 2 then ((hexa_Get.f b30).bind fun b34 =>
        (if ¬Prod.snd (Prod.snd b34) = true then (some ((ByteArray.mk #[], 0, 3)))
        else ((spec_Value.f ((a1, a2, a3, a4, a5), Prod.fst b34)).bind fun b35 =>
         (if ¬b35 = 0 then (some ((ByteArray.mk #[], 0, b35)))
         else (some ((Prod.fst b34, IntKind.wrap IntKind.i64 (a7 + b29), 0)))))))
       else ((spec_Value.f ((a1, a2, a3, a4, a5), b30)).bind fun b36 =>
        (if ¬b36 = 0 then (some ((ByteArray.mk #[], 0, b36)))
        else (some ((b30, IntKind.wrap IntKind.i64 (a7 + b29), 0)))))))))))
    else (if b28 = 2 then (if IntKind.wrap IntKind.i64 ((↑(ByteArray.size a6) : Int) - a7) < IntKind.wrap IntKind.i64 (2 * a4) then (some ((ByteArray.mk #[], 0, 2)))
      else ((ssub a6 a7 (IntKind.wrap IntKind.i64 (a7 + IntKind.wrap IntKind.i64 (2 * a4)))).bind fun b37 =>
       ((cell_how.f (a0, a2)).bind fun b38 =>
       (if b38 = 1 then ((bcd_Get.f (b37, a4)).bind fun b39 =>
        (if ¬Prod.fst (Prod.snd b39) = 0 then (some ((ByteArray.mk #[], 0, Prod.fst (Prod.snd b39))))
        else ((spec_Value.f ((a1, a2, a3, a4, a5), Prod.fst b39)).bind fun b40 =>
         (if ¬b40 = 0 then (some ((ByteArray.mk #[], 0, b40)))
         else (some ((Prod.fst b39, IntKind.wrap IntKind.i64 (a7 + IntKind.wrap IntKind.i64 (2 * a4)), 0)))))))
       else (if b38 = 2 then ((hexa_Get.f b37).bind fun b41 =>
         (if ¬Prod.snd (Prod.snd b41) = true then (some ((ByteArray.mk #[], 0, 3)))
         else ((spec_Value.f ((a1, a2, a3, a4, a5), Prod.fst b41)).bind fun b42 =>
          (if ¬b42 = 0 then (some ((ByteArray.mk #[], 0, b42)))
          else (some ((Prod.fst b41, IntKind.wrap IntKind.i64 (a7 + IntKind.wrap IntKind.i64 (2 * a4)), 0)))))))
        else ((spec_Value.f ((a1, a2, a3, a4, a5), b37)).bind fun b43 =>
         (if ¬b43 = 0 then (some ((ByteArray.mk #[], 0, b43)))
         else (some ((b37, IntKind.wrap IntKind.i64 (a7 + IntKind.wrap IntKind.i64 (2 * a4)), 0))))))))))
     else (if IntKind.wrap IntKind.i64 ((↑(ByteArray.size a6) : Int) - a7) < a4 then (some ((ByteArray.mk #[], 0, 2)))
      else ((ssub a6 a7 (IntKind.wrap IntKind.i64 (a7 + a4))).bind fun b44 =>
       ((cell_how.f (a0, a2)).bind fun b45 =>
       (if b45 = 1 then ((bcd_Get.f (b44, a4)).bind fun b46 =>
        (if ¬Prod.fst (Prod.snd b46) = 0 then (some ((ByteArray.mk #[], 0, Prod.fst (Prod.snd b46))))
        else ((spec_Value.f ((a1, a2, a3, a4, a5), Prod.fst b46)).bind fun b47 =>
         (if ¬b47 = 0 then (some ((ByteArray.mk #[], 0, b47)))
         else (some ((Prod.fst b46, IntKind.wrap IntKind.i64 (a7 + a4), 0)))))))
       else (if b45 = 2 then ((hexa_Get.f b44).bind fun b48 =>
         (if ¬Prod.snd (Prod.snd b48) = true then (some ((ByteArray.mk #[], 0, 3)))
         else ((spec_Value.f ((a1, a2, a3, a4, a5), Prod.fst b48)).bind fun b49 =>
          (if ¬b49 = 0 then (some ((ByteArray.mk #[], 0, b49)))
          else (some ((Prod.fst b48, IntKind.wrap IntKind.i64 (a7 + a4), 0)))))))
        else ((spec_Value.f ((a1, a2, a3, a4, a5), b44)).bind fun b50 =>
         (if ¬b50 = 0 then (some ((ByteArray.mk #[], 0, b50)))
         else (some ((b44, IntKind.wrap IntKind.i64 (a7 + a4), 0)))))))))))))))) := by kernel_rfl
noncomputable def cell_Get.f : El (sgTy cell_Get.sg) → Option (El cell_Get.rs.ty) := fun x => match x with
  | (a0, ((a1, (a2, (a3, (a4, a5)))), (a6, a7))) =>
  (((((cell_known.f a0).bind fun b0 =>
   (if ¬b0 = true then (some true)
   else ((spec_Check.f (a1, a2, a3, a4, a5)).bind fun b1 =>
    (if ¬b1 = 0 then (some true)
    else (if a7 < 0 then (some true)
     else (some (decide (a7 > (↑(ByteArray.size a6) : Int))))))))) : Option Bool)).bind fun b2 =>
  (if b2 = true then (some ((ByteArray.mk #[], 0, 1)))
  else (if ¬a3 = 1 then ((prefix_Get.f (a0, a3, a6, a7)).bind fun b3 =>
    (if ¬Prod.snd (Prod.snd b3) = 0 then (some ((ByteArray.mk #[], 0, Prod.snd (Prod.snd b3))))
    else ((((if Prod.fst b3 < a4 then (some true)
      else (some (decide (Prod.fst b3 > a5)))) : Option Bool)).bind fun b4 =>
     (if b4 = true then (some ((ByteArray.mk #[], 0, 5)))
     else ((cell_how.f (a0, a2)).bind fun b5 =>
      (if b5 = 1 then ((bcd_Size.f (Prod.fst b3)).bind fun b6 =>
       (if IntKind.wrap IntKind.i64 ((↑(ByteArray.size a6) : Int) - Prod.fst (Prod.snd b3)) < b6 then (some ((ByteArray.mk #[], 0, 2)))
       else ((ssub a6 (Prod.fst (Prod.snd b3)) (IntKind.wrap IntKind.i64 (Prod.fst (Prod.snd b3) + b6))).bind fun b7 =>
        ((cell_how.f (a0, a2)).bind fun b8 =>
        (if b8 = 1 then ((bcd_Get.f (b7, Prod.fst b3)).bind fun b9 =>
         (if ¬Prod.fst (Prod.snd b9) = 0 then (some ((ByteArray.mk #[], 0, Prod.fst (Prod.snd b9))))
         else ((spec_Value.f ((a1, a2, a3, a4, a5), Prod.fst b9)).bind fun b10 =>
          (if ¬b10 = 0 then (some ((ByteArray.mk #[], 0, b10)))
          else (some ((Prod.fst b9, IntKind.wrap IntKind.i64 (Prod.fst (Prod.snd b3) + b6), 0)))))))
        else (if b8 = 2 then ((hexa_Get.f b7).bind fun b11 =>
          (if ¬Prod.snd (Prod.snd b11) = true then (some ((ByteArray.mk #[], 0, 3)))
          else ((spec_Value.f ((a1, a2, a3, a4, a5), Prod.fst b11)).bind fun b12 =>
           (if ¬b12 = 0 then (some ((ByteArray.mk #[], 0, b12)))
           else (some ((Prod.fst b11, IntKind.wrap IntKind.i64 (Prod.fst (Prod.snd b3) + b6), 0)))))))
         else ((spec_Value.f ((a1, a2, a3, a4, a5), b7)).bind fun b13 =>
          (if ¬b13 = 0 then (some ((ByteArray.mk #[], 0, b13)))
          else (some ((b7, IntKind.wrap IntKind.i64 (Prod.fst (Prod.snd b3) + b6), 0)))))))))))
      else (if b5 = 2 then (if IntKind.wrap IntKind.i64 ((↑(ByteArray.size a6) : Int) - Prod.fst (Prod.snd b3)) < IntKind.wrap IntKind.i64 (2 * Prod.fst b3) then (some ((ByteArray.mk #[], 0, 2)))
        else ((ssub a6 (Prod.fst (Prod.snd b3)) (IntKind.wrap IntKind.i64 (Prod.fst (Prod.snd b3) + IntKind.wrap IntKind.i64 (2 * Prod.fst b3)))).bind fun b14 =>
         ((cell_how.f (a0, a2)).bind fun b15 =>
         (if b15 = 1 then ((bcd_Get.f (b14, Prod.fst b3)).bind fun b16 =>
          (if ¬Prod.fst (Prod.snd b16) = 0 then (some ((ByteArray.mk #[], 0, Prod.fst (Prod.snd b16))))
          else ((spec_Value.f ((a1, a2, a3, a4, a5), Prod.fst b16)).bind fun b17 =>
           (if ¬b17 = 0 then (some ((ByteArray.mk #[], 0, b17)))
           else (some ((Prod.fst b16, IntKind.wrap IntKind.i64 (Prod.fst (Prod.snd b3) + IntKind.wrap IntKind.i64 (2 * Prod.fst b3)), 0)))))))
         else (if b15 = 2 then ((hexa_Get.f b14).bind fun b18 =>
           (if ¬Prod.snd (Prod.snd b18) = true then (some ((ByteArray.mk #[], 0, 3)))
           else ((spec_Value.f ((a1, a2, a3, a4, a5), Prod.fst b18)).bind fun b19 =>
            (if ¬b19 = 0 then (some ((ByteArray.mk #[], 0, b19)))
            else (some ((Prod.fst b18, IntKind.wrap IntKind.i64 (Prod.fst (Prod.snd b3) + IntKind.wrap IntKind.i64 (2 * Prod.fst b3)), 0)))))))
          else ((spec_Value.f ((a1, a2, a3, a4, a5), b14)).bind fun b20 =>
           (if ¬b20 = 0 then (some ((ByteArray.mk #[], 0, b20)))
           else (some ((b14, IntKind.wrap IntKind.i64 (Prod.fst (Prod.snd b3) + IntKind.wrap IntKind.i64 (2 * Prod.fst b3)), 0))))))))))
       else (if IntKind.wrap IntKind.i64 ((↑(ByteArray.size a6) : Int) - Prod.fst (Prod.snd b3)) < Prod.fst b3 then (some ((ByteArray.mk #[], 0, 2)))
        else ((ssub a6 (Prod.fst (Prod.snd b3)) (IntKind.wrap IntKind.i64 (Prod.fst (Prod.snd b3) + Prod.fst b3))).bind fun b21 =>
         ((cell_how.f (a0, a2)).bind fun b22 =>
         (if b22 = 1 then ((bcd_Get.f (b21, Prod.fst b3)).bind fun b23 =>
          (if ¬Prod.fst (Prod.snd b23) = 0 then (some ((ByteArray.mk #[], 0, Prod.fst (Prod.snd b23))))
          else ((spec_Value.f ((a1, a2, a3, a4, a5), Prod.fst b23)).bind fun b24 =>
           (if ¬b24 = 0 then (some ((ByteArray.mk #[], 0, b24)))
           else (some ((Prod.fst b23, IntKind.wrap IntKind.i64 (Prod.fst (Prod.snd b3) + Prod.fst b3), 0)))))))
         else (if b22 = 2 then ((hexa_Get.f b21).bind fun b25 =>
           (if ¬Prod.snd (Prod.snd b25) = true then (some ((ByteArray.mk #[], 0, 3)))
           else ((spec_Value.f ((a1, a2, a3, a4, a5), Prod.fst b25)).bind fun b26 =>
            (if ¬b26 = 0 then (some ((ByteArray.mk #[], 0, b26)))
            else (some ((Prod.fst b25, IntKind.wrap IntKind.i64 (Prod.fst (Prod.snd b3) + Prod.fst b3), 0)))))))
          else ((spec_Value.f ((a1, a2, a3, a4, a5), b21)).bind fun b27 =>
           (if ¬b27 = 0 then (some ((ByteArray.mk #[], 0, b27)))
           else (some ((b21, IntKind.wrap IntKind.i64 (Prod.fst (Prod.snd b3) + Prod.fst b3), 0)))))))))))))))))
   else ((cell_how.f (a0, a2)).bind fun b28 =>
    (if b28 = 1 then ((bcd_Size.f a4).bind fun b29 =>
     (if IntKind.wrap IntKind.i64 ((↑(ByteArray.size a6) : Int) - a7) < b29 then (some ((ByteArray.mk #[], 0, 2)))
     else ((ssub a6 a7 (IntKind.wrap IntKind.i64 (a7 + b29))).bind fun b30 =>
      ((cell_how.f (a0, a2)).bind fun b31 =>
      (if b31 = 1 then ((bcd_Get.f (b30, a4)).bind fun b32 =>
       (if ¬Prod.fst (Prod.snd b32) = 0 then (some ((ByteArray.mk #[], 0, Prod.fst (Prod.snd b32))))
       else ((spec_Value.f ((a1, a2, a3, a4, a5), Prod.fst b32)).bind fun b33 =>
        (if ¬b33 = 0 then (some ((ByteArray.mk #[], 0, b33)))
        else (some ((Prod.fst b32, IntKind.wrap IntKind.i64 (a7 + b29), 0)))))))
      else (if b31 = 2 then ((hexa_Get.f b30).bind fun b34 =>
        (if ¬Prod.snd (Prod.snd b34) = true then (some ((ByteArray.mk #[], 0, 3)))
        else ((spec_Value.f ((a1, a2, a3, a4, a5), Prod.fst b34)).bind fun b35 =>
         (if ¬b35 = 0 then (some ((ByteArray.mk #[], 0, b35)))
         else (some ((Prod.fst b34, IntKind.wrap IntKind.i64 (a7 + b29), 0)))))))
       else ((spec_Value.f ((a1, a2, a3, a4, a5), b30)).bind fun b36 =>
        (if ¬b36 = 0 then (some ((ByteArray.mk #[], 0, b36)))
        else (some ((b30, IntKind.wrap IntKind.i64 (a7 + b29), 0)))))))))))
    else (if b28 = 2 then (if IntKind.wrap IntKind.i64 ((↑(ByteArray.size a6) : Int) - a7) < IntKind.wrap IntKind.i64 (2 * a4) then (some ((ByteArray.mk #[], 0, 2)))
      else ((ssub a6 a7 (IntKind.wrap IntKind.i64 (a7 + IntKind.wrap IntKind.i64 (2 * a4)))).bind fun b37 =>
       ((cell_how.f (a0, a2)).bind fun b38 =>
       (if b38 = 1 then ((bcd_Get.f (b37, a4)).bind fun b39 =>
        (if ¬Prod.fst (Prod.snd b39) = 0 then (some ((ByteArray.mk #[], 0, Prod.fst (Prod.snd b39))))
        else ((spec_Value.f ((a1, a2, a3, a4, a5), Prod.fst b39)).bind fun b40 =>
         (if ¬b40 = 0 then (some ((ByteArray.mk #[], 0, b40)))
         else (some ((Prod.fst b39, IntKind.wrap IntKind.i64 (a7 + IntKind.wrap IntKind.i64 (2 * a4)), 0)))))))
       else (if b38 = 2 then ((hexa_Get.f b37).bind fun b41 =>
         (if ¬Prod.snd (Prod.snd b41) = true then (some ((ByteArray.mk #[], 0, 3)))
         else ((spec_Value.f ((a1, a2, a3, a4, a5), Prod.fst b41)).bind fun b42 =>
          (if ¬b42 = 0 then (some ((ByteArray.mk #[], 0, b42)))
          else (some ((Prod.fst b41, IntKind.wrap IntKind.i64 (a7 + IntKind.wrap IntKind.i64 (2 * a4)), 0)))))))
        else ((spec_Value.f ((a1, a2, a3, a4, a5), b37)).bind fun b43 =>
         (if ¬b43 = 0 then (some ((ByteArray.mk #[], 0, b43)))
         else (some ((b37, IntKind.wrap IntKind.i64 (a7 + IntKind.wrap IntKind.i64 (2 * a4)), 0))))))))))
     else (if IntKind.wrap IntKind.i64 ((↑(ByteArray.size a6) : Int) - a7) < a4 then (some ((ByteArray.mk #[], 0, 2)))
      else ((ssub a6 a7 (IntKind.wrap IntKind.i64 (a7 + a4))).bind fun b44 =>
       ((cell_how.f (a0, a2)).bind fun b45 =>
       (if b45 = 1 then ((bcd_Get.f (b44, a4)).bind fun b46 =>
        (if ¬Prod.fst (Prod.snd b46) = 0 then (some ((ByteArray.mk #[], 0, Prod.fst (Prod.snd b46))))
        else ((spec_Value.f ((a1, a2, a3, a4, a5), Prod.fst b46)).bind fun b47 =>
         (if ¬b47 = 0 then (some ((ByteArray.mk #[], 0, b47)))
         else (some ((Prod.fst b46, IntKind.wrap IntKind.i64 (a7 + a4), 0)))))))
       else (if b45 = 2 then ((hexa_Get.f b44).bind fun b48 =>
         (if ¬Prod.snd (Prod.snd b48) = true then (some ((ByteArray.mk #[], 0, 3)))
         else ((spec_Value.f ((a1, a2, a3, a4, a5), Prod.fst b48)).bind fun b49 =>
          (if ¬b49 = 0 then (some ((ByteArray.mk #[], 0, b49)))
          else (some ((Prod.fst b48, IntKind.wrap IntKind.i64 (a7 + a4), 0)))))))
        else ((spec_Value.f ((a1, a2, a3, a4, a5), b44)).bind fun b50 =>
         (if ¬b50 = 0 then (some ((ByteArray.mk #[], 0, b50)))
         else (some ((b44, IntKind.wrap IntKind.i64 (a7 + a4), 0))))))))))))))))
noncomputable def cell_Get.c : Con := ⟨47, cell_Get.sg, cell_Get.rs, cell_Get.f⟩
theorem cell_Get.con : ConOk Tryz.prog cell_Get.c := walked (C := cell_Get.C) rfl (by kernel_rfl) (by kernel_rfl) (by kernel_rfl) rfl ⟨cell_known.con, spec_Value.con, cell_how.con, spec_Check.con, prefix_Get.con, bcd_Size.con, bcd_Get.con, hexa_Get.con, trivial⟩ fun ⟨a0, ⟨⟨a1, ⟨a2, ⟨a3, ⟨a4, a5⟩⟩⟩⟩, ⟨a6, a7⟩⟩⟩ y h => ⟨0, (cell_Get.eq 0 a0 a1 a2 a3 a4 a5 a6 a7).trans h⟩
theorem cell_Get (st no c fo mi ma : Int) (b : List UInt8) (hb : b.length ≤ 1000000000000) (a : Int) : cell_Get.f (st, (no, c, fo, mi, ma), sb b, a) = some (str3 (cellGet st no c fo mi ma b a)) := by
  have g : ((cell_known.f st).bind fun b0 => if ¬b0 = true then some true else (spec_Check.f (no, c, fo, mi, ma)).bind fun b1 => if ¬b1 = 0 then some true else if a < 0 then some true else some (decide (a > ((sb b).size : Int)))) = some (decide (¬ ((st = 1 ∨ st = 2) ∧ specE no c fo mi ma = 0 ∧ 0 ≤ a ∧ a ≤ (b.length : Int)))) := by
    rw [cell_known, Option.bind_some, spec_Check, Option.bind_some, size_sb]
    by_cases k1 : st = 1 ∨ st = 2
    · rw [decide_eq_true k1, if_neg (not_not_intro rfl)]
      by_cases k2 : specE no c fo mi ma = 0
      · rw [if_neg (not_not_intro k2)]
        by_cases k3 : a < 0
        · rw [if_pos k3, decide_eq_true (show ¬ ((st = 1 ∨ st = 2) ∧ specE no c fo mi ma = 0 ∧ 0 ≤ a ∧ a ≤ (b.length : Int)) from fun q => by omega)]
        · rw [if_neg k3]
          congr 1
          exact decide_eq_decide.2 ⟨fun h q => by omega, fun h => by
            rcases Int.lt_or_le (b.length : Int) a with h' | h'
            · exact h'
            · exact absurd ⟨k1, k2, by omega, h'⟩ h⟩
      · rw [if_pos k2, decide_eq_true (show ¬ ((st = 1 ∨ st = 2) ∧ specE no c fo mi ma = 0 ∧ 0 ≤ a ∧ a ≤ (b.length : Int)) from fun q => k2 q.2.1)]
    · rw [decide_eq_false k1, if_pos (by simp), decide_eq_true (show ¬ ((st = 1 ∨ st = 2) ∧ specE no c fo mi ma = 0 ∧ 0 ≤ a ∧ a ≤ (b.length : Int)) from fun q => k1 q.1)]
  simp only [cell_Get.f]
  rw [g, Option.bind_some]
  unfold cellGet
  by_cases hk : (st = 1 ∨ st = 2) ∧ specE no c fo mi ma = 0 ∧ 0 ≤ a ∧ a ≤ (b.length : Int)
  · rw [decide_eq_false (not_not_intro hk), if_neg (by simp), if_neg (not_not_intro hk)]
    obtain ⟨hs, he, ha0, ha⟩ := hk
    have hE := specE_zero he
    by_cases k1 : fo = 1
    · rw [if_neg (not_not_intro k1), if_pos k1]
      exact cellSize_g st no c fo mi ma b hb a ha0 ha mi (by omega) (by omega)
    · rw [if_pos k1, if_neg k1, prefix_Get st fo b hb a, Option.bind_some]
      by_cases k2 : (preGet st fo b a).2.2 = 0
      · rw [if_neg (not_not_intro k2), if_neg (not_not_intro k2)]
        obtain ⟨-, -, hnx, hle, h0, hm, -⟩ := prePut_get (style := st) (form := fo) (b := b) (at_ := a) (n := (preGet st fo b a).1) (next := (preGet st fo b a).2.1) (by rw [← k2])
        have g2 : (if (preGet st fo b a).1 < mi then some true else some (decide ((preGet st fo b a).1 > ma))) = some (decide ((preGet st fo b a).1 < mi ∨ ma < (preGet st fo b a).1)) := by
          by_cases q : (preGet st fo b a).1 < mi
          · rw [if_pos q, decide_eq_true (.inl q)]
          · rw [if_neg q]
            congr 1
            exact decide_eq_decide.2 ⟨.inr, fun h => h.elim (fun h => absurd h q) id⟩
        rw [g2, Option.bind_some]
        by_cases k3 : (preGet st fo b a).1 < mi ∨ ma < (preGet st fo b a).1
        · rw [decide_eq_true k3, if_pos rfl, if_pos k3]; rfl
        · rw [decide_eq_false k3, if_neg (by simp), if_neg k3]
          exact cellSize_g st no c fo mi ma b hb (preGet st fo b a).2.1 (by omega) hle (preGet st fo b a).1 h0 (by omega)
      · rw [if_pos k2, if_pos k2]; rfl
  · rw [decide_eq_true hk, if_pos rfl, if_pos hk]; rfl
end Go.Proofs.YtkaihbkfobiejaaGreatDoor.Xe
