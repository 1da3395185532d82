import Derived.Test.YtkaihbkfobiejaaGreatDoorZ13
import Derived.Test.YtkaihbkfobiejaaGreatDoorZ15
import Derived.Test.YtkaihbkfobiejaaGreatDoorZ11
import Derived.Test.YtkaihbkfobiejaaGreatDoorZ16
import Derived.Test.YtkaihbkfobiejaaGreatDoorZ8
import Derived.Test.YtkaihbkfobiejaaGreatDoorZ7
namespace Go.Proofs.YtkaihbkfobiejaaGreatDoor.Xe
open Go Go.RowKit Go.Proofs.YtkaihbkfobiejaaGreatDoor.Sp
set_option linter.unusedVariables false
set_option linter.unusedSimpArgs false
set_option maxRecDepth 100000
theorem intsOf_sb (l : List UInt8) : intsOf (sb l) = ints l := rfl
theorem lcat_ints (a b : List UInt8) (h : a.length + b.length ≤ 100000000000000) : lcat 1 (ints a) (intsOf (sb b)) = some (ints (a ++ b)) := by
 rw [intsOf_sb, lcat_ok _ _ _ (by rw [ints_length, ints_length]; omega), ints_append]
@[reducible] def wire_Type.sg : List Shp := [.v (.int .i64), .v (.str)]
@[reducible] def wire_Type.rs : Rs := .tup [.v (.str), .v (.bool)]
@[reducible] noncomputable def wire_Type.code : Code := Tryz.f15.body.getD .skip
noncomputable def wire_Type.C : Ctx := ⟨tab, [mti_Right.c, bcd_Put.c], [], ⟨[], []⟩⟩
theorem wire_Type.eq (n : Nat) (a0 : Int) (a1 : ByteArray) : call wire_Type.C Tryz.f15 wire_Type.code wire_Type.sg wire_Type.rs n (a0, a1) =
 ((mti_Right.f a1).bind fun b0 =>
 (if ¬b0 = true then (some ((ByteArray.mk #[], false)))
 else (if a0 = 1 then (some ((a1, true)))
 else (if a0 = 2 then ((bcd_Put.f a1).bind fun b1 =>
 (some ((b1.1, decide (b1.2 = true)))))
 else (some ((ByteArray.mk #[], false))))))) := by kernel_rfl
noncomputable def wire_Type.f : El (sgTy wire_Type.sg) → Option (El wire_Type.rs.ty) := fun x => match x with
 | (a0, a1) =>
 ((mti_Right.f a1).bind fun b0 =>
 (if ¬b0 = true then (some ((ByteArray.mk #[], false)))
 else (if a0 = 1 then (some ((a1, true)))
  else (if a0 = 2 then ((bcd_Put.f a1).bind fun b1 =>
   (some ((Prod.fst b1, decide (Prod.snd b1 = true)))))
  else (some ((ByteArray.mk #[], false)))))))
noncomputable def wire_Type.c : Con := ⟨15, wire_Type.sg, wire_Type.rs, wire_Type.f⟩
theorem wire_Type.con : ConOk Tryz.prog wire_Type.c := walked (C := wire_Type.C) rfl (by kernel_rfl) (by kernel_rfl) (by kernel_rfl) rfl ⟨mti_Right.con, bcd_Put.con, trivial⟩ fun ⟨a0, a1⟩ y h => ⟨0, (wire_Type.eq 0 a0 a1).trans h⟩
theorem wire_Type (st : Int) (t : List UInt8) : wire_Type.f (st, sb t) = some (sb (typeB st t), typeOk st t) := by
 simp only [wire_Type.f]
 rw [mti_Right, Option.bind_some]
 unfold typeB typeOk
 by_cases h : right t = true
 ·rw [if_neg (not_not_intro h), if_pos h, h, Bool.true_and]
  by_cases h1 : st = 1
  ·rw [if_pos h1, if_pos h1, decide_eq_true (show st = 1 ∨ st = 2 from .inl h1)]
  ·rw [if_neg h1, if_neg h1]
   by_cases h2 : st = 2
   ·rw [if_pos h2, if_pos h2, bcd_Put, Option.bind_some, (right_put h).1, decide_eq_true (show st = 1 ∨ st = 2 from .inr h2)]; rfl
   ·rw [if_neg h2, if_neg h2, decide_eq_false (by omega)]; rfl
 ·rw [if_pos h, if_neg h, Bool.eq_false_iff.2 h]; rfl
@[reducible] def wire_Encode.sg : List Shp := [.a zdS, .a (.pair (.str) (.sl zdE))]
@[reducible] def wire_Encode.rs : Rs := .tup [.v (.str), .a (.pair (.int .i64) (.int .i64))]
@[reducible] noncomputable def wire_Encode.code : Code := Tryz.f11.body.getD .skip
noncomputable def wire_Encode.C : Ctx := ⟨tab, [wire_Type.c, schema_Find.c, cell_Put.c, msg_Set.c, msg_Check.c, bitmap_Put.c], [bldW 37 98, bldS 42 98], ⟨[(11, [2, 5, 7, 8, 50, 51, 52], 5)], []⟩⟩
noncomputable def wire_Encode.l0 (n : Nat) (v0 : List zE) (v1 v2 v3 v4 : Int) (v5 : List z5) (v6 : ByteArray) (v7 : List zE) (v8 v9 v10 v11 : Int) (v12 : List Int) : Option ((ByteArray × (Int × Int))) := run wire_Encode.C (finOf wire_Encode.C Tryz.f11 wire_Encode.rs) n (todoAt 11 wire_Encode.code) ⟨zJ :: zJ :: .ptr 0 0 :: zJ :: zJ :: .ptr 2 0 :: zJ :: .ptr 4 0 :: .fn 37 [.ptr 4 0] :: zJ :: zK (zK (zK (zK (zK (.sl none zdE v0 :: .int .i64 v1 :: .int .i64 v2 :: zJ :: zK (zK (zK []))))))), [[.int .i64 v3, .int .i64 v4, .sl none zd5 v5], [.str v6, .sl none zdE v7], [.int .i64 v8, .int .i64 v9], [.int .i64 v10, .int .i64 v11], [.bld (some 0) 98 v12]], [true]⟩
theorem wire_Encode.l0_eq n v0 v1 v2 v3 v4 v5 v6 v7 v8 v9 v10 v11 v12 : wire_Encode.l0 (n + 1) v0 v1 v2 v3 v4 v5 v6 v7 v8 v9 v10 v11 v12 =
 (if v2 < v1 then ((lget v0 v2).bind fun b6 =>
 ((schema_Find.f ((v3, v4, v5), b6.1)).bind fun b7 =>
 ((cell_Put.f (v3, b7.1, b6.2)).bind fun b8 =>
 ((lcat 1 v12 (intsOf b8.1)).bind fun b9 =>
 (wire_Encode.l0 n v0 v1 (IntKind.wrap .i64 (v2 + 1)) v3 v4 v5 v6 v7 v8 v9 v10 v11 b9)))))
 else (some ((bytesOf v12, 0, 0)))) := by kernel_rfl
theorem wire_Encode.eq (n : Nat) (a0 a1 : Int) (a2 : List z5) (a3 : ByteArray) (a4 : List zE) : call wire_Encode.C Tryz.f11 wire_Encode.code wire_Encode.sg wire_Encode.rs n ((a0, (a1, a2)), (a3, a4)) =
 ((msg_Check.f ((a0, a1, a2), a3, a4)).bind fun b0 =>
 (if ¬b0.1 = 0 then (some ((ByteArray.mk #[], b0)))
 else ((wire_Type.f (a0, a3)).bind fun b1 =>
 ((lcat 1 [] (intsOf b1.1)).bind fun b2 =>
 ((msg_Set.f (a3, a4)).bind fun b3 =>
 ((bitmap_Put.f (a0, b3)).bind fun b4 =>
 ((lcat 1 b2 (intsOf b4.1)).bind fun b5 =>
 (wire_Encode.l0 n a4 (a4.length : Int) 0 a0 a1 a2 a3 a4 0 0 b0.1 b0.2 b5)))))))) := by kernel_rfl
noncomputable def wire_Encode.f (x : (Int × Int × List S5) × ByteArray × List V) : Option (ByteArray × Int × Int) := if x.1.2.2.length ≤ 1000000 ∧ okM x.2.2 then some (sb (wireE x.1 (bl x.2.1) x.2.2).1, (wireE x.1 (bl x.2.1) x.2.2).2) else none
theorem wire_Encode (a b : Int) (s : List S5) (hs : s.length ≤ 1000000) (t : List UInt8) (l : List V) (hl : okM l) : wire_Encode.f ((a, b, s), sb t, l) = some (sb (wireE (a, b, s) t l).1, (wireE (a, b, s) t l).2) := if_pos ⟨hs, hl⟩
theorem wire_Encode_l (a b : Int) (s : List S5) (hs : s.length ≤ 1000000) (t : ByteArray) (l : List V) (hl : okM l) (c d e f : Int) : ∀ (m : List V) (o : List UInt8) (k i : Nat), l.drop i = m → o.length ≤ 100 + 3000 * i → m.length < k →
  wire_Encode.l0 k l (l.length : Int) (i : Int) a b s t l c d e f (ints o) = some (sb (o ++ fieldsB a s m), 0, 0)
 | [], o, k, i, hd, ho, hk => by
  obtain ⟨k, rfl⟩ : ∃ m, k = m + 1 := ⟨k - 1, by omega⟩
  have := dropn hd
  rw [wire_Encode.l0_eq, if_neg (by omega), str_ints]
  show _ = some (sb (o ++ []), (0 : Int), (0 : Int))
  rw [List.append_nil]
 | v :: m, o, k, i, hd, ho, hk => by
  obtain ⟨k, rfl⟩ : ∃ m, k = m + 1 := ⟨k - 1, by omega⟩
  obtain ⟨h1, h2, h3, h4⟩ := dropc hd
  have hk' : m.length < k := by simp at hk; omega
  have hm : l.length ≤ 1000000 := hl.1
  have hv : v.2.size ≤ 1000000000000 := hl.2 v (List.mem_of_mem_drop (by rw [hd]; exact List.mem_cons_self ..))
  obtain ⟨x, hx⟩ := ex_sb v.2
  have hxl : x.length ≤ 1000000000000 := by rw [hx, size_sb] at hv; exact hv
  have hc : cell_Put.f (a, (findS v.1 s).1, v.2) = some (sb (cellB a s v), (cellPut a (findS v.1 s).1.1 (findS v.1 s).1.2.1 (findS v.1 s).1.2.2.1 (findS v.1 s).1.2.2.2.1 (findS v.1 s).1.2.2.2.2 (bl v.2)).2) := by
   unfold cellB
   rw [hx]
   exact cell_Put a _ _ _ _ _ x hxl
  have hb : (cellB a s v).length ≤ 3000 := cellPut_length ..
  rw [wire_Encode.l0_eq, if_pos (by omega), h4, Option.bind_some, schema_Find a b s hs, Option.bind_some]
  try dsimp only
  rw [hc, Option.bind_some]
  try dsimp only
  rw [lcat_ints _ _ (by omega), Option.bind_some, wrap_succ (by omega), wire_Encode_l a b s hs t l hl c d e f m (o ++ cellB a s v) k (i + 1) h2 (by rw [List.length_append]; omega) hk']
  unfold fieldsB
  rw [List.flatMap_cons, List.append_assoc]
theorem wire_Encode.run (a b : Int) (s : List S5) (hs : s.length ≤ 1000000) (t : List UInt8) (l : List V) (hl : okM l) : call wire_Encode.C Tryz.f11 wire_Encode.code wire_Encode.sg wire_Encode.rs (l.length + 1) ((a, b, s), sb t, l) = some (sb (wireE (a, b, s) t l).1, (wireE (a, b, s) t l).2) := by
 rw [wire_Encode.eq, msg_Check a b s t l hs hl, Option.bind_some]
 unfold wireE
 by_cases c : (msgE (a, b, s) t l).1 = 0
 ·have hm : l.length ≤ 1000000 := hl.1
  have h1 := typeB_length a t
  have h2 := bitsB_length a l
  have e0 : (((withAll (l.map Prod.fst) (0, 0)).1 : Int), ((withAll (l.map Prod.fst) (0, 0)).2 : Int)) = (((setV l).1 : Int), ((setV l).2 : Int)) := rfl
  rw [if_neg (not_not_intro c), if_neg (not_not_intro c), wire_Type, Option.bind_some]
  try dsimp only
  rw [show lcat 1 [] (intsOf (sb (typeB a t))) = some (ints (typeB a t)) from lcat_ints [] (typeB a t) (by simp; omega), Option.bind_some, msg_Set (sb t) l (by omega), Option.bind_some, e0, bitmap_Put a _ _ (setV_lt l).1 (setV_lt l).2, Option.bind_some]
  try dsimp only
  rw [show lcat 1 (ints (typeB a t)) (intsOf (sb (bitPut a (setV l).1 (setV l).2).1)) = some (ints (typeB a t ++ bitsB a l)) from lcat_ints (typeB a t) (bitsB a l) (by omega), Option.bind_some]
  exact wire_Encode_l a b s hs (sb t) l hl 0 0 _ _ l (typeB a t ++ bitsB a l) _ 0 rfl (by rw [List.length_append]; omega) (by omega)
 ·rw [if_pos c, if_pos c]; rfl
noncomputable def wire_Encode.c : Con := ⟨11, wire_Encode.sg, wire_Encode.rs, wire_Encode.f⟩
theorem wire_Encode.con : ConOk Tryz.prog wire_Encode.c := con_ok (C := wire_Encode.C) (show TabOk Tryz.prog wire_Encode.C.T from tabOk) ⟨AllOk.all (show AllOk wire_Encode.C.G from ⟨wire_Type.con, schema_Find.con, cell_Put.con, msg_Set.con, msg_Check.con, bitmap_Put.con, trivial⟩), fun c hc => by
  rcases List.mem_cons.1 (show c ∈ [bldW 37 98, bldS 42 98] from hc) with rfl | hc
  ·exact encodePut_ok
  ·rw [List.mem_singleton.1 hc]; exact builderString_ok⟩ mixed (by kernel_rfl) (by kernel_rfl) (by kernel_rfl) fun ⟨⟨a, b, s⟩, t, l⟩ y h => by
 obtain ⟨t, rfl⟩ := ex_sb t
 have h : wire_Encode.f ((a, b, s), sb t, l) = some y := h
 unfold wire_Encode.f at h
 split at h
 ·rename_i hc
  exact ⟨l.length + 1, (wire_Encode.run a b s hc.1 t l hc.2).trans h⟩
 ·cases h
theorem ssub_at (b : List UInt8) (p n : Nat) (h : p + n ≤ b.length) (hb : b.length ≤ 1000000000000) : ssub (sb b) (p : Int) (IntKind.wrap .i64 ((p : Int) + (n : Int))) = some (sb ((b.drop p).take n)) := by
 rw [wrap_id (by omega) (by omega), show (p : Int) + (n : Int) = ((p + n : Nat) : Int) by omega, ssub_sb _ _ _ (by omega) h]
 congr 2
 rw [List.drop_take, Nat.add_sub_cancel_left]
noncomputable def preTailG (s f : Int) (b : ByteArray) (a z : Int) : Option (Int × Int × Int) :=
 if IntKind.wrap IntKind.i64 ((b.size : Int) - a) < z then some (0, 0, 2)
 else (ssub b a (IntKind.wrap IntKind.i64 (a + z))).bind fun b3 =>
  if s = 2 then (prefix_width.f f).bind fun b4 => (bcd_Get.f (b3, b4)).bind fun b5 =>
   if ¬Prod.fst (Prod.snd b5) = 0 then some (0, 0, 3)
   else (digits_Get.f (Prod.fst b5)).bind fun b6 => if ¬Prod.snd b6 = true then some (0, 0, 3) else some (Prod.fst b6, IntKind.wrap IntKind.i64 (a + z), 0)
  else (digits_Get.f b3).bind fun b7 => if ¬Prod.snd b7 = true then some (0, 0, 3) else some (Prod.fst b7, IntKind.wrap IntKind.i64 (a + z), 0)
theorem preTailG_eq (s f : Int) (b : List UInt8) (hb : b.length ≤ 1000000000000) (a : Nat) (ha : a ≤ b.length) (hk : preOk s f = true) : preTailG s f (sb b) (a : Int) (preSize s f : Int) = some (preGet s f b (a : Int)) := by
 obtain ⟨hs, hf⟩ := preOk_iff hk
 have hz : preSize s f ≤ 3 := by unfold preSize; split <;> omega
 have hw : prefix_width.f f = some f := by unfold prefix_width.f; rw [if_pos hf]
 unfold preTailG preGet
 rw [if_pos (show preOk s f = true ∧ 0 ≤ (a : Int) ∧ (a : Int) ≤ (b.length : Int) from ⟨hk, by omega, by omega⟩), size_sb, wrap_id (by omega) (by omega), Int.toNat_natCast]
 by_cases c1 : (b.length : Int) - (a : Int) < (preSize s f : Int)
 ·rw [if_pos c1, if_pos c1]
 rw [if_neg c1, if_neg c1, ssub_at b a _ (by omega) hb, Option.bind_some, wrap_id (by omega) (by omega)]
 unfold preDigits
 by_cases c2 : s = 2
 ·rw [if_pos c2, if_pos c2, hw, Option.bind_some, bcd_Get, Option.bind_some]
  dsimp only
  by_cases c3 : (bcdGet ((b.drop a).take (preSize s f)) f).2.1 = 0
  ·rw [if_neg (not_not_intro c3), if_pos c3, digits_Get, Option.bind_some]
   by_cases c4 : (getNum (bcdGet ((b.drop a).take (preSize s f)) f).1).2 = true
   ·rw [if_neg (not_not_intro c4), if_pos c4]
   ·rw [if_pos c4, if_neg c4]
  ·rw [if_pos c3, if_neg c3]
 ·rw [if_neg c2, if_neg c2, digits_Get, Option.bind_some]
  dsimp only
  rw [if_pos rfl]
  by_cases c4 : (getNum ((b.drop a).take (preSize s f))).2 = true
  ·rw [if_neg (not_not_intro c4), if_pos c4]
  ·rw [if_pos c4, if_neg c4]
@[reducible] def prefix_Get.sg : List Shp := [.v (.int .i64), .v (.int .i64), .v (.str), .v (.int .i64)]
@[reducible] def prefix_Get.rs : Rs := .tup [.v (.int .i64), .v (.int .i64), .v (.int .i64)]
@[reducible] noncomputable def prefix_Get.code : Code := Tryz.f94.body.getD .skip
noncomputable def prefix_Get.C : Ctx := ⟨tab, [bcd_Size.c, bcd_Get.c, prefix_known.c, prefix_width.c, digits_Get.c], [], ⟨[], []⟩⟩
theorem prefix_Get.eq (n : Nat) (a0 a1 : Int) (a2 : ByteArray) (a3 : Int) : call prefix_Get.C Tryz.f94 prefix_Get.code prefix_Get.sg prefix_Get.rs n (a0, (a1, (a2, a3))) =
 ((prefix_known.f (a0, a1)).bind fun b0 =>
 (if ¬b0 = true then (some ((0, 0, 1)))
 else (if a3 < 0 then (some ((0, 0, 1)))
 else (if a3 > (a2.size : Int) then (some ((0, 0, 1)))
 else ((prefix_width.f a1).bind fun b1 =>
 (if a0 = 2 then ((bcd_Size.f b1).bind fun b2 =>
 (if IntKind.wrap .i64 ((a2.size : Int) - a3) < b2 then (some ((0, 0, 2)))
 else ((ssub a2 a3 (IntKind.wrap .i64 (a3 + b2))).bind fun b3 =>
 (if a0 = 2 then ((prefix_width.f a1).bind fun b4 =>
 ((bcd_Get.f (b3, b4)).bind fun b5 =>
 (if ¬b5.2.1 = 0 then (some ((0, 0, 3)))
 else ((digits_Get.f b5.1).bind fun b6 =>
 (if ¬b6.2 = true then (some ((0, 0, 3)))
 else (some ((b6.1, IntKind.wrap .i64 (a3 + b2), 0))))))))
 else ((digits_Get.f b3).bind fun b7 =>
 (if ¬b7.2 = true then (some ((0, 0, 3)))
 else (some ((b7.1, IntKind.wrap .i64 (a3 + b2), 0)))))))))
 else (if IntKind.wrap .i64 ((a2.size : Int) - a3) < b1 then (some ((0, 0, 2)))
 else ((ssub a2 a3 (IntKind.wrap .i64 (a3 + b1))).bind fun b8 =>
 (if a0 = 2 then ((prefix_width.f a1).bind fun b9 =>
 ((bcd_Get.f (b8, b9)).bind fun b10 =>
 (if ¬b10.2.1 = 0 then (some ((0, 0, 3)))
 else ((digits_Get.f b10.1).bind fun b11 =>
 (if ¬b11.2 = true then (some ((0, 0, 3)))
 else (some ((b11.1, IntKind.wrap .i64 (a3 + b1), 0))))))))
 else ((digits_Get.f b8).bind fun b12 =>
 (if ¬b12.2 = true then (some ((0, 0, 3)))
 else (some ((b12.1, IntKind.wrap .i64 (a3 + b1), 0)))))))))))))) := by kernel_rfl
noncomputable def prefix_Get.f : El (sgTy prefix_Get.sg) → Option (El prefix_Get.rs.ty) := fun x => match x with
 | (a0, (a1, (a2, a3))) =>
 ((prefix_known.f (a0, a1)).bind fun b0 =>
 (if ¬b0 = true then (some ((0, 0, 1)))
 else (if a3 < 0 then (some ((0, 0, 1)))
  else (if a3 > (↑(ByteArray.size a2) : Int) then (some ((0, 0, 1)))
  else ((prefix_width.f a1).bind fun b1 =>
   (if a0 = 2 then ((bcd_Size.f b1).bind fun b2 =>
   (if IntKind.wrap IntKind.i64 ((↑(ByteArray.size a2) : Int) - a3) < b2 then (some ((0, 0, 2)))
   else ((ssub a2 a3 (IntKind.wrap IntKind.i64 (a3 + b2))).bind fun b3 =>
    (if a0 = 2 then ((prefix_width.f a1).bind fun b4 =>
    ((bcd_Get.f (b3, b4)).bind fun b5 =>
    (if ¬Prod.fst (Prod.snd b5) = 0 then (some ((0, 0, 3)))
    else ((digits_Get.f (Prod.fst b5)).bind fun b6 =>
     (if ¬Prod.snd b6 = true then (some ((0, 0, 3)))
     else (some ((Prod.fst b6, IntKind.wrap IntKind.i64 (a3 + b2), 0))))))))
    else ((digits_Get.f b3).bind fun b7 =>
    (if ¬Prod.snd b7 = true then (some ((0, 0, 3)))
    else (some ((Prod.fst b7, IntKind.wrap IntKind.i64 (a3 + b2), 0)))))))))
   else (if IntKind.wrap IntKind.i64 ((↑(ByteArray.size a2) : Int) - a3) < b1 then (some ((0, 0, 2)))
   else ((ssub a2 a3 (IntKind.wrap IntKind.i64 (a3 + b1))).bind fun b8 =>
    (if a0 = 2 then ((prefix_width.f a1).bind fun b9 =>
    ((bcd_Get.f (b8, b9)).bind fun b10 =>
    (if ¬Prod.fst (Prod.snd b10) = 0 then (some ((0, 0, 3)))
    else ((digits_Get.f (Prod.fst b10)).bind fun b11 =>
     (if ¬Prod.snd b11 = true then (some ((0, 0, 3)))
     else (some ((Prod.fst b11, IntKind.wrap IntKind.i64 (a3 + b1), 0))))))))
    else ((digits_Get.f b8).bind fun b12 =>
    (if ¬Prod.snd b12 = true then (some ((0, 0, 3)))
    else (some ((Prod.fst b12, IntKind.wrap IntKind.i64 (a3 + b1), 0))))))))))))))
noncomputable def prefix_Get.c : Con := ⟨94, prefix_Get.sg, prefix_Get.rs, prefix_Get.f⟩
theorem prefix_Get.con : ConOk Tryz.prog prefix_Get.c := walked (C := prefix_Get.C) rfl (by kernel_rfl) (by kernel_rfl) (by kernel_rfl) rfl ⟨bcd_Size.con, bcd_Get.con, prefix_known.con, prefix_width.con, digits_Get.con, trivial⟩ fun ⟨a0, ⟨a1, ⟨a2, a3⟩⟩⟩ y h => ⟨0, (prefix_Get.eq 0 a0 a1 a2 a3).trans h⟩
theorem prefix_Get (s f : Int) (b : List UInt8) (hb : b.length ≤ 1000000000000) (a : Int) : prefix_Get.f (s, f, sb b, a) = some (preGet s f b a) := by
 have hno : ¬ (preOk s f = true ∧ 0 ≤ a ∧ a ≤ (b.length : Int)) → preGet s f b a = (0, 0, 1) := fun h => by unfold preGet; rw [if_neg h]
 simp only [prefix_Get.f]
 rw [prefix_known, Option.bind_some]
 by_cases hk : preOk s f = true
 ·rw [if_neg (not_not_intro hk)]
  by_cases c1 : a < 0
  ·rw [if_pos c1, hno (by omega)]
  rw [if_neg c1, size_sb]
  by_cases c2 : a > (b.length : Int)
  ·rw [if_pos c2, hno (by omega)]
  rw [if_neg c2]
  obtain ⟨a, rfl⟩ := Int.eq_ofNat_of_zero_le (show 0 ≤ a by omega)
  have hf := (preOk_iff hk).2
  have hw : prefix_width.f f = some f := by unfold prefix_width.f; rw [if_pos hf]
  have key := preTailG_eq s f b hb a (by omega) hk
  unfold preTailG at key
  rw [size_sb] at key
  have hz : (preSize s f : Int) = if s = 2 then (((f.toNat + 1) / 2 : Nat) : Int) else f := by unfold preSize; split <;> omega
  rw [hw, Option.bind_some]
  by_cases c3 : s = 2
  ·rw [if_pos c3] at hz
   have hb2 : bcd_Size.f f = some (preSize s f : Int) := by
    have := bcd_Size f.toNat (by omega)
    rw [show ((f.toNat : Nat) : Int) = f by omega] at this
    rw [this, hz]
   rw [hw] at key
   rw [if_pos c3, hb2, Option.bind_some]
   exact key
  ·rw [if_neg c3] at hz
   rw [hw, hz] at key
   rw [if_neg c3]
   exact key
 ·rw [if_pos hk, hno (fun q => hk q.1)]
noncomputable def cellTailG (st : Int) (q : Int × Int × Int × Int × Int) (b : ByteArray) (a z n : Int) : Option (ByteArray × Int × Int) :=
 if IntKind.wrap IntKind.i64 ((b.size : Int) - a) < z then some (ByteArray.mk #[], 0, 2)
 else (ssub b a (IntKind.wrap IntKind.i64 (a + z))).bind fun b7 => (cell_how.f (st, q.2.1)).bind fun b8 =>
  if b8 = 1 then (bcd_Get.f (b7, n)).bind fun b9 =>
   if ¬Prod.fst (Prod.snd b9) = 0 then some (ByteArray.mk #[], 0, Prod.fst (Prod.snd b9))
   else (spec_Value.f (q, Prod.fst b9)).bind fun b10 => if ¬b10 = 0 then some (ByteArray.mk #[], 0, b10) else some (Prod.fst b9, IntKind.wrap IntKind.i64 (a + z), 0)
  else if b8 = 2 then (hexa_Get.f b7).bind fun b11 =>
   if ¬Prod.snd (Prod.snd b11) = true then some (ByteArray.mk #[], 0, 3)
   else (spec_Value.f (q, Prod.fst b11)).bind fun b12 => if ¬b12 = 0 then some (ByteArray.mk #[], 0, b12) else some (Prod.fst b11, IntKind.wrap IntKind.i64 (a + z), 0)
  else (spec_Value.f (q, b7)).bind fun b13 => if ¬b13 = 0 then some (ByteArray.mk #[], 0, b13) else some (b7, IntKind.wrap IntKind.i64 (a + z), 0)
def str3 (x : List UInt8 × Int × Int) : ByteArray × Int × Int := (sb x.1, x.2.1, x.2.2)
theorem bcdGet_len (b : List UInt8) (n : Int) : (bcdGet b n).1.length ≤ 999 := by
 by_cases h : (bcdGet b n).2.1 = 0
 ·obtain ⟨-, h0, h1, -, h2, -⟩ := bcdGet_ok (b := b) (n := n) (r := (bcdGet b n).1) (p := (bcdGet b n).2.2) (by rw [← h])
  omega
 ·rw [bcdGet_no h]; simp
theorem hexGet_len (b : List UInt8) : (hexGet b).1.length ≤ b.length + 1 := by
 by_cases h : (hexGet b).2.2 = true
 ·have := congrArg List.length (hexGet_ok (l := b) (r := (hexGet b).1) (n := (hexGet b).2.1) (by rw [← h])).2
  rw [hexPut_length] at this
  omega
 ·rw [(hexGet_no (by simpa using h)).1]; simp
theorem cellTailG_eq (st no c fo mi ma : Int) (b : List UInt8) (hb : b.length ≤ 1000000000000) (a n : Nat) (ha : a ≤ b.length) (hn : n ≤ 999) : cellTailG st (no, c, fo, mi, ma) (sb b) (a : Int) (cellSize (cellHow st c) n : Int) (n : Int) = some (str3 (cellTake st no c fo mi ma b a n)) := by
 have hz : cellSize (cellHow st c) n ≤ 2000 := by
  unfold cellSize
  split
  ·omega
  ·split <;> omega
 unfold cellTailG cellTake
 rw [size_sb, wrap_id (by omega) (by omega)]
 by_cases c1 : (b.length : Int) - (a : Int) < (cellSize (cellHow st c) n : Int)
 ·rw [if_pos c1, if_pos c1]; rfl
 rw [if_neg c1, if_neg c1, ssub_at b a _ (by omega) hb, Option.bind_some, show cell_how.f (st, (no, c, fo, mi, ma).2.1) = some (cellHow st c) from cell_how st c, Option.bind_some, wrap_id (by omega) (by omega), show (a : Int) + (cellSize (cellHow st c) n : Int) = ((a + cellSize (cellHow st c) n : Nat) : Int) by omega]
 generalize hraw : (b.drop a).take (cellSize (cellHow st c) n) = raw
 have hrl : raw.length ≤ 2000 := by rw [← hraw, List.length_take]; omega
 unfold cellText
 by_cases k1 : cellHow st c = 1
 ·have hl := bcdGet_len raw n
  rw [if_pos k1, if_pos k1, bcd_Get, Option.bind_some]
  dsimp only
  by_cases k2 : (bcdGet raw n).2.1 = 0
  ·rw [if_neg (not_not_intro k2), if_neg (not_not_intro k2), spec_Value no c fo mi ma _ (by omega), Option.bind_some]
   by_cases k3 : specV no c fo mi ma (bcdGet raw n).1 = 0
   ·rw [if_neg (not_not_intro k3), if_neg (not_not_intro k3)]; rfl
   ·rw [if_pos k3, if_pos k3]; rfl
  ·rw [if_pos k2, if_pos k2]; rfl
 rw [if_neg k1, if_neg k1]
 by_cases k2 : cellHow st c = 2
 ·have hl := hexGet_len raw
  rw [if_pos k2, if_pos k2, hexa_Get raw (by omega), Option.bind_some]
  dsimp only
  by_cases k3 : (hexGet raw).2.2 = true
  ·rw [if_neg (not_not_intro k3), if_pos k3, if_neg (not_not_intro rfl), spec_Value no c fo mi ma _ (by omega), Option.bind_some]
   by_cases k4 : specV no c fo mi ma (hexGet raw).1 = 0
   ·rw [if_neg (not_not_intro k4), if_neg (not_not_intro k4)]; rfl
   ·rw [if_pos k4, if_pos k4]; rfl
  ·rw [if_pos k3, if_neg k3, if_pos (by decide)]; rfl
 ·rw [if_neg k2, if_neg k2, spec_Value no c fo mi ma _ (by omega), Option.bind_some]
  dsimp only
  rw [if_neg (not_not_intro rfl)]
  by_cases k4 : specV no c fo mi ma raw = 0
  ·rw [if_neg (not_not_intro k4), if_neg (not_not_intro k4)]; rfl
  ·rw [if_pos k4, if_pos k4]; rfl
theorem cellSize_g (st no c fo mi ma : Int) (b : List UInt8) (hb : b.length ≤ 1000000000000) (a : Int) (ha0 : 0 ≤ a) (ha : a ≤ (b.length : Int)) (n : Int) (hn0 : 0 ≤ n) (hn : n ≤ 999) :
  ((cell_how.f (st, c)).bind fun b5 => if b5 = 1 then (bcd_Size.f n).bind fun b6 => cellTailG st (no, c, fo, mi, ma) (sb b) a b6 n
   else if b5 = 2 then cellTailG st (no, c, fo, mi, ma) (sb b) a (IntKind.wrap IntKind.i64 (2 * n)) n
   else cellTailG st (no, c, fo, mi, ma) (sb b) a n n) = some (str3 (cellTake st no c fo mi ma b a.toNat n.toNat)) := by
 obtain ⟨a, rfl⟩ := Int.eq_ofNat_of_zero_le ha0
 obtain ⟨n, rfl⟩ := Int.eq_ofNat_of_zero_le hn0
 have key := cellTailG_eq st no c fo mi ma b hb a n (by omega) (by omega)
 rw [show cell_how.f (st, c) = some (cellHow st c) from cell_how st c, Option.bind_some, Int.toNat_natCast, Int.toNat_natCast, ← key]
 unfold cellSize
 by_cases k1 : cellHow st c = 1
 ·rw [if_pos k1, if_pos k1, bcd_Size n (by omega), Option.bind_some]
 rw [if_neg k1, if_neg k1]
 by_cases k2 : cellHow st c = 2
 ·rw [if_pos k2, if_pos k2, wrap_id (by omega) (by omega)]; rfl
 ·rw [if_neg k2, if_neg k2]
@[reducible] def cell_Get.sg : List Shp := [.v (.int .i64), .a zd5, .v (.str), .v (.int .i64)]
@[reducible] def cell_Get.rs : Rs := .tup [.v (.str), .v (.int .i64), .v (.int .i64)]
@[reducible] noncomputable def cell_Get.code : Code := Tryz.f47.body.getD .skip
noncomputable def cell_Get.C : Ctx := ⟨tab, [cell_known.c, spec_Value.c, cell_how.c, spec_Check.c, prefix_Get.c, bcd_Size.c, bcd_Get.c, hexa_Get.c], [], ⟨[], [(1, [(39, .bool)]), (9, [(67, .bool)])]⟩⟩
theorem cell_Get.eq (n : Nat) (a0 a1 a2 a3 a4 a5 : Int) (a6 : ByteArray) (a7 : Int) : call cell_Get.C Tryz.f47 cell_Get.code cell_Get.sg cell_Get.rs n (a0, ((a1, (a2, (a3, (a4, a5)))), (a6, a7))) =
 (((((cell_known.f a0).bind fun b0 =>
 (if ¬b0 = true then (some true)
 else ((spec_Check.f (a1, a2, a3, a4, a5)).bind fun b1 =>
 (if ¬b1 = 0 then (some true)
 else (if a7 < 0 then (some true)
 else (some (decide (a7 > (a6.size : Int))))))))) : Option Bool)).bind fun b2 =>
 (if b2 = true then (some ((ByteArray.mk #[], 0, 1)))
 else (if ¬a3 = 1 then ((prefix_Get.f (a0, a3, a6, a7)).bind fun b3 =>
 (if ¬b3.2.2 = 0 then (some ((ByteArray.mk #[], 0, b3.2.2)))
 else ((((if b3.1 < a4 then (some true)
 else (some (decide (b3.1 > a5)))) : Option Bool)).bind fun b4 =>
 (if b4 = true then (some ((ByteArray.mk #[], 0, 5)))
 else ((cell_how.f (a0, a2)).bind fun b5 =>
 (if b5 = 1 then ((bcd_Size.f b3.1).bind fun b6 =>
 (if IntKind.wrap .i64 ((a6.size : Int) - b3.2.1) < b6 then (some ((ByteArray.mk #[], 0, 2)))
 else ((ssub a6 b3.2.1 (IntKind.wrap .i64 (b3.2.1 + b6))).bind fun b7 =>
 ((cell_how.f (a0, a2)).bind fun b8 =>
 (if b8 = 1 then ((bcd_Get.f (b7, b3.1)).bind fun b9 =>
 (if ¬b9.2.1 = 0 then (some ((ByteArray.mk #[], 0, b9.2.1)))
 else ((spec_Value.f ((a1, a2, a3, a4, a5), b9.1)).bind fun b10 =>
 (if ¬b10 = 0 then (some ((ByteArray.mk #[], 0, b10)))
 else (some ((b9.1, IntKind.wrap .i64 (b3.2.1 + b6), 0)))))))
 else (if b8 = 2 then ((hexa_Get.f b7).bind fun b11 =>
 (if ¬b11.2.2 = true then (some ((ByteArray.mk #[], 0, 3)))
 else ((spec_Value.f ((a1, a2, a3, a4, a5), b11.1)).bind fun b12 =>
 (if ¬b12 = 0 then (some ((ByteArray.mk #[], 0, b12)))
 else (some ((b11.1, IntKind.wrap .i64 (b3.2.1 + b6), 0)))))))
 else ((spec_Value.f ((a1, a2, a3, a4, a5), b7)).bind fun b13 =>
 (if ¬b13 = 0 then (some ((ByteArray.mk #[], 0, b13)))
 else (some ((b7, IntKind.wrap .i64 (b3.2.1 + b6), 0)))))))))))
 else (if b5 = 2 then (if IntKind.wrap .i64 ((a6.size : Int) - b3.2.1) < IntKind.wrap .i64 (2 * b3.1) then (some ((ByteArray.mk #[], 0, 2)))
 else ((ssub a6 b3.2.1 (IntKind.wrap .i64 (b3.2.1 + IntKind.wrap .i64 (2 * b3.1)))).bind fun b14 =>
 ((cell_how.f (a0, a2)).bind fun b15 =>
 (if b15 = 1 then ((bcd_Get.f (b14, b3.1)).bind fun b16 =>
 (if ¬b16.2.1 = 0 then (some ((ByteArray.mk #[], 0, b16.2.1)))
 else ((spec_Value.f ((a1, a2, a3, a4, a5), b16.1)).bind fun b17 =>
 (if ¬b17 = 0 then (some ((ByteArray.mk #[], 0, b17)))
 else (some ((b16.1, IntKind.wrap .i64 (b3.2.1 + IntKind.wrap .i64 (2 * b3.1)), 0)))))))
 else (if b15 = 2 then ((hexa_Get.f b14).bind fun b18 =>
 (if ¬b18.2.2 = true then (some ((ByteArray.mk #[], 0, 3)))
 else ((spec_Value.f ((a1, a2, a3, a4, a5), b18.1)).bind fun b19 =>
 (if ¬b19 = 0 then (some ((ByteArray.mk #[], 0, b19)))
 else (some ((b18.1, IntKind.wrap .i64 (b3.2.1 + IntKind.wrap .i64 (2 * b3.1)), 0)))))))
 else ((spec_Value.f ((a1, a2, a3, a4, a5), b14)).bind fun b20 =>
 (if ¬b20 = 0 then (some ((ByteArray.mk #[], 0, b20)))
 else (some ((b14, IntKind.wrap .i64 (b3.2.1 + IntKind.wrap .i64 (2 * b3.1)), 0))))))))))
 else (if IntKind.wrap .i64 ((a6.size : Int) - b3.2.1) < b3.1 then (some ((ByteArray.mk #[], 0, 2)))
 else ((ssub a6 b3.2.1 (IntKind.wrap .i64 (b3.2.1 + b3.1))).bind fun b21 =>
 ((cell_how.f (a0, a2)).bind fun b22 =>
 (if b22 = 1 then ((bcd_Get.f (b21, b3.1)).bind fun b23 =>
 (if ¬b23.2.1 = 0 then (some ((ByteArray.mk #[], 0, b23.2.1)))
 else ((spec_Value.f ((a1, a2, a3, a4, a5), b23.1)).bind fun b24 =>
 (if ¬b24 = 0 then (some ((ByteArray.mk #[], 0, b24)))
 else (some ((b23.1, IntKind.wrap .i64 (b3.2.1 + b3.1), 0)))))))
 else (if b22 = 2 then ((hexa_Get.f b21).bind fun b25 =>
 (if ¬b25.2.2 = true then (some ((ByteArray.mk #[], 0, 3)))
 else ((spec_Value.f ((a1, a2, a3, a4, a5), b25.1)).bind fun b26 =>
 (if ¬b26 = 0 then (some ((ByteArray.mk #[], 0, b26)))
 else (some ((b25.1, IntKind.wrap .i64 (b3.2.1 + b3.1), 0)))))))
 else ((spec_Value.f ((a1, a2, a3, a4, a5), b21)).bind fun b27 =>
 (if ¬b27 = 0 then (some ((ByteArray.mk #[], 0, b27)))
 else (some ((b21, IntKind.wrap .i64 (b3.2.1 + b3.1), 0)))))))))))))))))
 else ((cell_how.f (a0, a2)).bind fun b28 =>
 (if b28 = 1 then ((bcd_Size.f a4).bind fun b29 =>
 (if IntKind.wrap .i64 ((a6.size : Int) - a7) < b29 then (some ((ByteArray.mk #[], 0, 2)))
 else ((ssub a6 a7 (IntKind.wrap .i64 (a7 + b29))).bind fun b30 =>
 ((cell_how.f (a0, a2)).bind fun b31 =>
 (if b31 = 1 then ((bcd_Get.f (b30, a4)).bind fun b32 =>
 (if ¬b32.2.1 = 0 then (some ((ByteArray.mk #[], 0, b32.2.1)))
 else ((spec_Value.f ((a1, a2, a3, a4, a5), b32.1)).bind fun b33 =>
 (if ¬b33 = 0 then (some ((ByteArray.mk #[], 0, b33)))
 else (some ((b32.1, IntKind.wrap .i64 (a7 + b29), 0)))))))
 else (if b31 = 2 then ((hexa_Get.f b30).bind fun b34 =>
 (if ¬b34.2.2 = true then (some ((ByteArray.mk #[], 0, 3)))
 else ((spec_Value.f ((a1, a2, a3, a4, a5), b34.1)).bind fun b35 =>
 (if ¬b35 = 0 then (some ((ByteArray.mk #[], 0, b35)))
 else (some ((b34.1, IntKind.wrap .i64 (a7 + b29), 0)))))))
 else ((spec_Value.f ((a1, a2, a3, a4, a5), b30)).bind fun b36 =>
 (if ¬b36 = 0 then (some ((ByteArray.mk #[], 0, b36)))
 else (some ((b30, IntKind.wrap .i64 (a7 + b29), 0)))))))))))
 else (if b28 = 2 then (if IntKind.wrap .i64 ((a6.size : Int) - a7) < IntKind.wrap .i64 (2 * a4) then (some ((ByteArray.mk #[], 0, 2)))
 else ((ssub a6 a7 (IntKind.wrap .i64 (a7 + IntKind.wrap .i64 (2 * a4)))).bind fun b37 =>
 ((cell_how.f (a0, a2)).bind fun b38 =>
 (if b38 = 1 then ((bcd_Get.f (b37, a4)).bind fun b39 =>
 (if ¬b39.2.1 = 0 then (some ((ByteArray.mk #[], 0, b39.2.1)))
 else ((spec_Value.f ((a1, a2, a3, a4, a5), b39.1)).bind fun b40 =>
 (if ¬b40 = 0 then (some ((ByteArray.mk #[], 0, b40)))
 else (some ((b39.1, IntKind.wrap .i64 (a7 + IntKind.wrap .i64 (2 * a4)), 0)))))))
 else (if b38 = 2 then ((hexa_Get.f b37).bind fun b41 =>
 (if ¬b41.2.2 = true then (some ((ByteArray.mk #[], 0, 3)))
 else ((spec_Value.f ((a1, a2, a3, a4, a5), b41.1)).bind fun b42 =>
 (if ¬b42 = 0 then (some ((ByteArray.mk #[], 0, b42)))
 else (some ((b41.1, IntKind.wrap .i64 (a7 + IntKind.wrap .i64 (2 * a4)), 0)))))))
 else ((spec_Value.f ((a1, a2, a3, a4, a5), b37)).bind fun b43 =>
 (if ¬b43 = 0 then (some ((ByteArray.mk #[], 0, b43)))
 else (some ((b37, IntKind.wrap .i64 (a7 + IntKind.wrap .i64 (2 * a4)), 0))))))))))
 else (if IntKind.wrap .i64 ((a6.size : Int) - a7) < a4 then (some ((ByteArray.mk #[], 0, 2)))
 else ((ssub a6 a7 (IntKind.wrap .i64 (a7 + a4))).bind fun b44 =>
 ((cell_how.f (a0, a2)).bind fun b45 =>
 (if b45 = 1 then ((bcd_Get.f (b44, a4)).bind fun b46 =>
 (if ¬b46.2.1 = 0 then (some ((ByteArray.mk #[], 0, b46.2.1)))
 else ((spec_Value.f ((a1, a2, a3, a4, a5), b46.1)).bind fun b47 =>
 (if ¬b47 = 0 then (some ((ByteArray.mk #[], 0, b47)))
 else (some ((b46.1, IntKind.wrap .i64 (a7 + a4), 0)))))))
 else (if b45 = 2 then ((hexa_Get.f b44).bind fun b48 =>
 (if ¬b48.2.2 = true then (some ((ByteArray.mk #[], 0, 3)))
 else ((spec_Value.f ((a1, a2, a3, a4, a5), b48.1)).bind fun b49 =>
 (if ¬b49 = 0 then (some ((ByteArray.mk #[], 0, b49)))
 else (some ((b48.1, IntKind.wrap .i64 (a7 + a4), 0)))))))
 else ((spec_Value.f ((a1, a2, a3, a4, a5), b44)).bind fun b50 =>
 (if ¬b50 = 0 then (some ((ByteArray.mk #[], 0, b50)))
 else (some ((b44, IntKind.wrap .i64 (a7 + a4), 0)))))))))))))))) := by kernel_rfl
noncomputable def cell_Get.f : El (sgTy cell_Get.sg) → Option (El cell_Get.rs.ty) := fun x => match x with
 | (a0, ((a1, (a2, (a3, (a4, a5)))), (a6, a7))) =>
 (((((cell_known.f a0).bind fun b0 =>
  (if ¬b0 = true then (some true)
  else ((spec_Check.f (a1, a2, a3, a4, a5)).bind fun b1 =>
  (if ¬b1 = 0 then (some true)
  else (if a7 < 0 then (some true)
   else (some (decide (a7 > (↑(ByteArray.size a6) : Int))))))))) : Option Bool)).bind fun b2 =>
 (if b2 = true then (some ((ByteArray.mk #[], 0, 1)))
 else (if ¬a3 = 1 then ((prefix_Get.f (a0, a3, a6, a7)).bind fun b3 =>
  (if ¬Prod.snd (Prod.snd b3) = 0 then (some ((ByteArray.mk #[], 0, Prod.snd (Prod.snd b3))))
  else ((((if Prod.fst b3 < a4 then (some true)
   else (some (decide (Prod.fst b3 > a5)))) : Option Bool)).bind fun b4 =>
   (if b4 = true then (some ((ByteArray.mk #[], 0, 5)))
   else ((cell_how.f (a0, a2)).bind fun b5 =>
   (if b5 = 1 then ((bcd_Size.f (Prod.fst b3)).bind fun b6 =>
    (if IntKind.wrap IntKind.i64 ((↑(ByteArray.size a6) : Int) - Prod.fst (Prod.snd b3)) < b6 then (some ((ByteArray.mk #[], 0, 2)))
    else ((ssub a6 (Prod.fst (Prod.snd b3)) (IntKind.wrap IntKind.i64 (Prod.fst (Prod.snd b3) + b6))).bind fun b7 =>
    ((cell_how.f (a0, a2)).bind fun b8 =>
    (if b8 = 1 then ((bcd_Get.f (b7, Prod.fst b3)).bind fun b9 =>
     (if ¬Prod.fst (Prod.snd b9) = 0 then (some ((ByteArray.mk #[], 0, Prod.fst (Prod.snd b9))))
     else ((spec_Value.f ((a1, a2, a3, a4, a5), Prod.fst b9)).bind fun b10 =>
     (if ¬b10 = 0 then (some ((ByteArray.mk #[], 0, b10)))
     else (some ((Prod.fst b9, IntKind.wrap IntKind.i64 (Prod.fst (Prod.snd b3) + b6), 0)))))))
    else (if b8 = 2 then ((hexa_Get.f b7).bind fun b11 =>
     (if ¬Prod.snd (Prod.snd b11) = true then (some ((ByteArray.mk #[], 0, 3)))
     else ((spec_Value.f ((a1, a2, a3, a4, a5), Prod.fst b11)).bind fun b12 =>
      (if ¬b12 = 0 then (some ((ByteArray.mk #[], 0, b12)))
      else (some ((Prod.fst b11, IntKind.wrap IntKind.i64 (Prod.fst (Prod.snd b3) + b6), 0)))))))
     else ((spec_Value.f ((a1, a2, a3, a4, a5), b7)).bind fun b13 =>
     (if ¬b13 = 0 then (some ((ByteArray.mk #[], 0, b13)))
     else (some ((b7, IntKind.wrap IntKind.i64 (Prod.fst (Prod.snd b3) + b6), 0)))))))))))
   else (if b5 = 2 then (if IntKind.wrap IntKind.i64 ((↑(ByteArray.size a6) : Int) - Prod.fst (Prod.snd b3)) < IntKind.wrap IntKind.i64 (2 * Prod.fst b3) then (some ((ByteArray.mk #[], 0, 2)))
    else ((ssub a6 (Prod.fst (Prod.snd b3)) (IntKind.wrap IntKind.i64 (Prod.fst (Prod.snd b3) + IntKind.wrap IntKind.i64 (2 * Prod.fst b3)))).bind fun b14 =>
     ((cell_how.f (a0, a2)).bind fun b15 =>
     (if b15 = 1 then ((bcd_Get.f (b14, Prod.fst b3)).bind fun b16 =>
     (if ¬Prod.fst (Prod.snd b16) = 0 then (some ((ByteArray.mk #[], 0, Prod.fst (Prod.snd b16))))
     else ((spec_Value.f ((a1, a2, a3, a4, a5), Prod.fst b16)).bind fun b17 =>
      (if ¬b17 = 0 then (some ((ByteArray.mk #[], 0, b17)))
      else (some ((Prod.fst b16, IntKind.wrap IntKind.i64 (Prod.fst (Prod.snd b3) + IntKind.wrap IntKind.i64 (2 * Prod.fst b3)), 0)))))))
     else (if b15 = 2 then ((hexa_Get.f b14).bind fun b18 =>
      (if ¬Prod.snd (Prod.snd b18) = true then (some ((ByteArray.mk #[], 0, 3)))
      else ((spec_Value.f ((a1, a2, a3, a4, a5), Prod.fst b18)).bind fun b19 =>
      (if ¬b19 = 0 then (some ((ByteArray.mk #[], 0, b19)))
      else (some ((Prod.fst b18, IntKind.wrap IntKind.i64 (Prod.fst (Prod.snd b3) + IntKind.wrap IntKind.i64 (2 * Prod.fst b3)), 0)))))))
     else ((spec_Value.f ((a1, a2, a3, a4, a5), b14)).bind fun b20 =>
      (if ¬b20 = 0 then (some ((ByteArray.mk #[], 0, b20)))
      else (some ((b14, IntKind.wrap IntKind.i64 (Prod.fst (Prod.snd b3) + IntKind.wrap IntKind.i64 (2 * Prod.fst b3)), 0))))))))))
    else (if IntKind.wrap IntKind.i64 ((↑(ByteArray.size a6) : Int) - Prod.fst (Prod.snd b3)) < Prod.fst b3 then (some ((ByteArray.mk #[], 0, 2)))
    else ((ssub a6 (Prod.fst (Prod.snd b3)) (IntKind.wrap IntKind.i64 (Prod.fst (Prod.snd b3) + Prod.fst b3))).bind fun b21 =>
     ((cell_how.f (a0, a2)).bind fun b22 =>
     (if b22 = 1 then ((bcd_Get.f (b21, Prod.fst b3)).bind fun b23 =>
     (if ¬Prod.fst (Prod.snd b23) = 0 then (some ((ByteArray.mk #[], 0, Prod.fst (Prod.snd b23))))
     else ((spec_Value.f ((a1, a2, a3, a4, a5), Prod.fst b23)).bind fun b24 =>
      (if ¬b24 = 0 then (some ((ByteArray.mk #[], 0, b24)))
      else (some ((Prod.fst b23, IntKind.wrap IntKind.i64 (Prod.fst (Prod.snd b3) + Prod.fst b3), 0)))))))
     else (if b22 = 2 then ((hexa_Get.f b21).bind fun b25 =>
      (if ¬Prod.snd (Prod.snd b25) = true then (some ((ByteArray.mk #[], 0, 3)))
      else ((spec_Value.f ((a1, a2, a3, a4, a5), Prod.fst b25)).bind fun b26 =>
      (if ¬b26 = 0 then (some ((ByteArray.mk #[], 0, b26)))
      else (some ((Prod.fst b25, IntKind.wrap IntKind.i64 (Prod.fst (Prod.snd b3) + Prod.fst b3), 0)))))))
     else ((spec_Value.f ((a1, a2, a3, a4, a5), b21)).bind fun b27 =>
      (if ¬b27 = 0 then (some ((ByteArray.mk #[], 0, b27)))
      else (some ((b21, IntKind.wrap IntKind.i64 (Prod.fst (Prod.snd b3) + Prod.fst b3), 0)))))))))))))))))
  else ((cell_how.f (a0, a2)).bind fun b28 =>
  (if b28 = 1 then ((bcd_Size.f a4).bind fun b29 =>
   (if IntKind.wrap IntKind.i64 ((↑(ByteArray.size a6) : Int) - a7) < b29 then (some ((ByteArray.mk #[], 0, 2)))
   else ((ssub a6 a7 (IntKind.wrap IntKind.i64 (a7 + b29))).bind fun b30 =>
   ((cell_how.f (a0, a2)).bind fun b31 =>
   (if b31 = 1 then ((bcd_Get.f (b30, a4)).bind fun b32 =>
    (if ¬Prod.fst (Prod.snd b32) = 0 then (some ((ByteArray.mk #[], 0, Prod.fst (Prod.snd b32))))
    else ((spec_Value.f ((a1, a2, a3, a4, a5), Prod.fst b32)).bind fun b33 =>
    (if ¬b33 = 0 then (some ((ByteArray.mk #[], 0, b33)))
    else (some ((Prod.fst b32, IntKind.wrap IntKind.i64 (a7 + b29), 0)))))))
   else (if b31 = 2 then ((hexa_Get.f b30).bind fun b34 =>
    (if ¬Prod.snd (Prod.snd b34) = true then (some ((ByteArray.mk #[], 0, 3)))
    else ((spec_Value.f ((a1, a2, a3, a4, a5), Prod.fst b34)).bind fun b35 =>
     (if ¬b35 = 0 then (some ((ByteArray.mk #[], 0, b35)))
     else (some ((Prod.fst b34, IntKind.wrap IntKind.i64 (a7 + b29), 0)))))))
    else ((spec_Value.f ((a1, a2, a3, a4, a5), b30)).bind fun b36 =>
    (if ¬b36 = 0 then (some ((ByteArray.mk #[], 0, b36)))
    else (some ((b30, IntKind.wrap IntKind.i64 (a7 + b29), 0)))))))))))
  else (if b28 = 2 then (if IntKind.wrap IntKind.i64 ((↑(ByteArray.size a6) : Int) - a7) < IntKind.wrap IntKind.i64 (2 * a4) then (some ((ByteArray.mk #[], 0, 2)))
   else ((ssub a6 a7 (IntKind.wrap IntKind.i64 (a7 + IntKind.wrap IntKind.i64 (2 * a4)))).bind fun b37 =>
    ((cell_how.f (a0, a2)).bind fun b38 =>
    (if b38 = 1 then ((bcd_Get.f (b37, a4)).bind fun b39 =>
    (if ¬Prod.fst (Prod.snd b39) = 0 then (some ((ByteArray.mk #[], 0, Prod.fst (Prod.snd b39))))
    else ((spec_Value.f ((a1, a2, a3, a4, a5), Prod.fst b39)).bind fun b40 =>
     (if ¬b40 = 0 then (some ((ByteArray.mk #[], 0, b40)))
     else (some ((Prod.fst b39, IntKind.wrap IntKind.i64 (a7 + IntKind.wrap IntKind.i64 (2 * a4)), 0)))))))
    else (if b38 = 2 then ((hexa_Get.f b37).bind fun b41 =>
     (if ¬Prod.snd (Prod.snd b41) = true then (some ((ByteArray.mk #[], 0, 3)))
     else ((spec_Value.f ((a1, a2, a3, a4, a5), Prod.fst b41)).bind fun b42 =>
     (if ¬b42 = 0 then (some ((ByteArray.mk #[], 0, b42)))
     else (some ((Prod.fst b41, IntKind.wrap IntKind.i64 (a7 + IntKind.wrap IntKind.i64 (2 * a4)), 0)))))))
    else ((spec_Value.f ((a1, a2, a3, a4, a5), b37)).bind fun b43 =>
     (if ¬b43 = 0 then (some ((ByteArray.mk #[], 0, b43)))
     else (some ((b37, IntKind.wrap IntKind.i64 (a7 + IntKind.wrap IntKind.i64 (2 * a4)), 0))))))))))
   else (if IntKind.wrap IntKind.i64 ((↑(ByteArray.size a6) : Int) - a7) < a4 then (some ((ByteArray.mk #[], 0, 2)))
   else ((ssub a6 a7 (IntKind.wrap IntKind.i64 (a7 + a4))).bind fun b44 =>
    ((cell_how.f (a0, a2)).bind fun b45 =>
    (if b45 = 1 then ((bcd_Get.f (b44, a4)).bind fun b46 =>
    (if ¬Prod.fst (Prod.snd b46) = 0 then (some ((ByteArray.mk #[], 0, Prod.fst (Prod.snd b46))))
    else ((spec_Value.f ((a1, a2, a3, a4, a5), Prod.fst b46)).bind fun b47 =>
     (if ¬b47 = 0 then (some ((ByteArray.mk #[], 0, b47)))
     else (some ((Prod.fst b46, IntKind.wrap IntKind.i64 (a7 + a4), 0)))))))
    else (if b45 = 2 then ((hexa_Get.f b44).bind fun b48 =>
     (if ¬Prod.snd (Prod.snd b48) = true then (some ((ByteArray.mk #[], 0, 3)))
     else ((spec_Value.f ((a1, a2, a3, a4, a5), Prod.fst b48)).bind fun b49 =>
     (if ¬b49 = 0 then (some ((ByteArray.mk #[], 0, b49)))
     else (some ((Prod.fst b48, IntKind.wrap IntKind.i64 (a7 + a4), 0)))))))
    else ((spec_Value.f ((a1, a2, a3, a4, a5), b44)).bind fun b50 =>
     (if ¬b50 = 0 then (some ((ByteArray.mk #[], 0, b50)))
     else (some ((b44, IntKind.wrap IntKind.i64 (a7 + a4), 0))))))))))))))))
noncomputable def cell_Get.c : Con := ⟨47, cell_Get.sg, cell_Get.rs, cell_Get.f⟩
theorem cell_Get.con : ConOk Tryz.prog cell_Get.c := walked (C := cell_Get.C) rfl (by kernel_rfl) (by kernel_rfl) (by kernel_rfl) rfl ⟨cell_known.con, spec_Value.con, cell_how.con, spec_Check.con, prefix_Get.con, bcd_Size.con, bcd_Get.con, hexa_Get.con, trivial⟩ fun ⟨a0, ⟨⟨a1, ⟨a2, ⟨a3, ⟨a4, a5⟩⟩⟩⟩, ⟨a6, a7⟩⟩⟩ y h => ⟨0, (cell_Get.eq 0 a0 a1 a2 a3 a4 a5 a6 a7).trans h⟩
theorem cell_Get (st no c fo mi ma : Int) (b : List UInt8) (hb : b.length ≤ 1000000000000) (a : Int) : cell_Get.f (st, (no, c, fo, mi, ma), sb b, a) = some (str3 (cellGet st no c fo mi ma b a)) := by
 have g : ((cell_known.f st).bind fun b0 => if ¬b0 = true then some true else (spec_Check.f (no, c, fo, mi, ma)).bind fun b1 => if ¬b1 = 0 then some true else if a < 0 then some true else some (decide (a > ((sb b).size : Int)))) = some (decide (¬ ((st = 1 ∨ st = 2) ∧ specE no c fo mi ma = 0 ∧ 0 ≤ a ∧ a ≤ (b.length : Int)))) := by
  rw [cell_known, Option.bind_some, spec_Check, Option.bind_some, size_sb]
  by_cases k1 : st = 1 ∨ st = 2
  ·rw [decide_eq_true k1, if_neg (not_not_intro rfl)]
   by_cases k2 : specE no c fo mi ma = 0
   ·rw [if_neg (not_not_intro k2)]
    by_cases k3 : a < 0
    ·rw [if_pos k3, decide_eq_true (show ¬ ((st = 1 ∨ st = 2) ∧ specE no c fo mi ma = 0 ∧ 0 ≤ a ∧ a ≤ (b.length : Int)) from fun q => by omega)]
    ·rw [if_neg k3]
     congr 1
     exact decide_eq_decide.2 ⟨fun h q => by omega, fun h => by
      rcases Int.lt_or_le (b.length : Int) a with h' | h'
      ·exact h'
      ·exact absurd ⟨k1, k2, by omega, h'⟩ h⟩
   ·rw [if_pos k2, decide_eq_true (show ¬ ((st = 1 ∨ st = 2) ∧ specE no c fo mi ma = 0 ∧ 0 ≤ a ∧ a ≤ (b.length : Int)) from fun q => k2 q.2.1)]
  ·rw [decide_eq_false k1, if_pos (by simp), decide_eq_true (show ¬ ((st = 1 ∨ st = 2) ∧ specE no c fo mi ma = 0 ∧ 0 ≤ a ∧ a ≤ (b.length : Int)) from fun q => k1 q.1)]
 simp only [cell_Get.f]
 rw [g, Option.bind_some]
 unfold cellGet
 by_cases hk : (st = 1 ∨ st = 2) ∧ specE no c fo mi ma = 0 ∧ 0 ≤ a ∧ a ≤ (b.length : Int)
 ·rw [decide_eq_false (not_not_intro hk), if_neg (by simp), if_neg (not_not_intro hk)]
  obtain ⟨hs, he, ha0, ha⟩ := hk
  have hE := specE_zero he
  by_cases k1 : fo = 1
  ·rw [if_neg (not_not_intro k1), if_pos k1]
   exact cellSize_g st no c fo mi ma b hb a ha0 ha mi (by omega) (by omega)
  ·rw [if_pos k1, if_neg k1, prefix_Get st fo b hb a, Option.bind_some]
   by_cases k2 : (preGet st fo b a).2.2 = 0
   ·rw [if_neg (not_not_intro k2), if_neg (not_not_intro k2)]
    obtain ⟨-, -, hnx, hle, h0, hm, -⟩ := prePut_get (style := st) (form := fo) (b := b) (at_ := a) (n := (preGet st fo b a).1) (next := (preGet st fo b a).2.1) (by rw [← k2])
    have g2 : (if (preGet st fo b a).1 < mi then some true else some (decide ((preGet st fo b a).1 > ma))) = some (decide ((preGet st fo b a).1 < mi ∨ ma < (preGet st fo b a).1)) := by
     by_cases q : (preGet st fo b a).1 < mi
     ·rw [if_pos q, decide_eq_true (.inl q)]
     ·rw [if_neg q]
      congr 1
      exact decide_eq_decide.2 ⟨.inr, fun h => h.elim (fun h => absurd h q) id⟩
    rw [g2, Option.bind_some]
    by_cases k3 : (preGet st fo b a).1 < mi ∨ ma < (preGet st fo b a).1
    ·rw [decide_eq_true k3, if_pos rfl, if_pos k3]; rfl
    ·rw [decide_eq_false k3, if_neg (by simp), if_neg k3]
     exact cellSize_g st no c fo mi ma b hb (preGet st fo b a).2.1 (by omega) hle (preGet st fo b a).1 h0 (by omega)
   ·rw [if_pos k2, if_pos k2]; rfl
 ·rw [decide_eq_true hk, if_pos rfl, if_pos hk]; rfl
end Go.Proofs.YtkaihbkfobiejaaGreatDoor.Xe
