/- What the program's functions that encode messages answer. -/
import Derived.Test.YtkaihbkfobiejaaGreatDoorNgf
import Derived.Test.YtkaihbkfobiejaaGreatDoorEcu
import Derived.Test.YtkaihbkfobiejaaGreatDoorEbm
import Derived.Test.YtkaihbkfobiejaaGreatDoorEge
import Derived.Test.YtkaihbkfobiejaaGreatDoorXbw
namespace Go.Proofs.YtkaihbkfobiejaaGreatDoor.Xe
open Go Go.RowKit Go.Proofs.YtkaihbkfobiejaaGreatDoor.Sp
set_option linter.unusedVariables false
set_option linter.unusedSimpArgs false
set_option maxRecDepth 100000
theorem intsOf_sb (l : List UInt8) : intsOf (sb l) = ints l := rfl
theorem lcat_ints (a b : List UInt8) (h : a.length + b.length ≤ 100000000000000) : lcat 1 (ints a) (intsOf (sb b)) = some (ints (a ++ b)) := by
  rw [intsOf_sb, lcat_ok _ _ _ (by rw [ints_length, ints_length]; omega), ints_append]
/-! ### wire_Type -/
@[reducible] def wire_Type.sg : List Shp := [.v (.int .i64), .v (.str)]
@[reducible] def wire_Type.rs : Rs := .tup [.v (.str), .v (.bool)]
@[reducible] noncomputable def wire_Type.code : Code := Tryz.f15.body.getD .skip
noncomputable def wire_Type.C : Ctx := ⟨tab, [mti_Right.c, bcd_Put.c], [], ⟨[], []⟩⟩
theorem wire_Type.eq (n : Nat) (a0 : Int) (a1 : ByteArray) : call wire_Type.C Tryz.f15 wire_Type.code wire_Type.sg wire_Type.rs n (a0, a1) =
  ((mti_Right.f a1).bind fun b0 =>
  (if ¬b0 = true then (some ((ByteArray.mk #[], false)))
  else (if a0 = 1 then (some ((a1, true)))
   else (if a0 = 2 then ((bcd_Put.f a1).bind fun b1 =>
     (some ((Prod.fst b1, decide (Prod.snd b1 = true)))))
    else (some ((ByteArray.mk #[], false))))))) := by kernel_rfl
noncomputable def wire_Type.f : El (sgTy wire_Type.sg) → Option (El wire_Type.rs.ty) := fun x => match x with
  | (a0, a1) =>
  ((mti_Right.f a1).bind fun b0 =>
  (if ¬b0 = true then (some ((ByteArray.mk #[], false)))
  else (if a0 = 1 then (some ((a1, true)))
   else (if a0 = 2 then ((bcd_Put.f a1).bind fun b1 =>
     (some ((Prod.fst b1, decide (Prod.snd b1 = true)))))
    else (some ((ByteArray.mk #[], false)))))))
noncomputable def wire_Type.c : Con := ⟨15, wire_Type.sg, wire_Type.rs, wire_Type.f⟩
theorem wire_Type.con : ConOk Tryz.prog wire_Type.c := walked (C := wire_Type.C) rfl (by kernel_rfl) (by kernel_rfl) (by kernel_rfl) rfl ⟨mti_Right.con, bcd_Put.con, trivial⟩ fun ⟨a0, a1⟩ y h => ⟨0, (wire_Type.eq 0 a0 a1).trans h⟩
theorem wire_Type (st : Int) (t : List UInt8) : wire_Type.f (st, sb t) = some (sb (typeB st t), typeOk st t) := by
  simp only [wire_Type.f]
  rw [mti_Right, Option.bind_some]
  unfold typeB typeOk
  by_cases h : right t = true
  · rw [if_neg (not_not_intro h), if_pos h, h, Bool.true_and]
    by_cases h1 : st = 1
    · rw [if_pos h1, if_pos h1, decide_eq_true (show st = 1 ∨ st = 2 from .inl h1)]
    · rw [if_neg h1, if_neg h1]
      by_cases h2 : st = 2
      · rw [if_pos h2, if_pos h2, bcd_Put, Option.bind_some, (right_put h).1, decide_eq_true (show st = 1 ∨ st = 2 from .inr h2)]; rfl
      · rw [if_neg h2, if_neg h2, decide_eq_false (by omega)]; rfl
  · rw [if_pos h, if_neg h, Bool.eq_false_iff.2 h]; rfl
/-! ### wire_Encode -/
@[reducible] def wire_Encode.sg : List Shp := [.a (.pair (.int .i64) (.pair (.int .i64) (.sl (.pair (.int .i64) (.pair (.int .i64) (.pair (.int .i64) (.pair (.int .i64) (.int .i64)))))))), .a (.pair (.str) (.sl (.pair (.int .i64) (.str))))]
@[reducible] def wire_Encode.rs : Rs := .tup [.v (.str), .a (.pair (.int .i64) (.int .i64))]
@[reducible] noncomputable def wire_Encode.code : Code := Tryz.f11.body.getD .skip
noncomputable def wire_Encode.C : Ctx := ⟨tab, [wire_Type.c, schema_Find.c, cell_Put.c, msg_Set.c, msg_Check.c, bitmap_Put.c], [bldW 37 98, bldS 42 98], ⟨[(11, [2, 5, 7, 8, 50, 51, 52], 5)], []⟩⟩
noncomputable def wire_Encode.l0 (n : Nat) (v0 : List ((Int × ByteArray))) (v1 : Int) (v2 : Int) (v3 : Int) (v4 : Int) (v5 : List ((Int × (Int × (Int × (Int × Int)))))) (v6 : ByteArray) (v7 : List ((Int × ByteArray))) (v8 : Int) (v9 : Int) (v10 : Int) (v11 : Int) (v12 : List Int) : Option ((ByteArray × (Int × Int))) := run wire_Encode.C (finOf wire_Encode.C Tryz.f11 wire_Encode.rs) n (todoAt 11 wire_Encode.code) ⟨[.junk, .junk, .ptr 0 0, .junk, .junk, .ptr 2 0, .junk, .ptr 4 0, .fn 37 [.ptr 4 0], .junk, .junk, .junk, .junk, .junk, .junk, .junk, .junk, .junk, .junk, .junk, .junk, .junk, .junk, .junk, .junk, .junk, .junk, .junk, .junk, .junk, .junk, .junk, .junk, .junk, .junk, .junk, .junk, .junk, .junk, .junk, .junk, .junk, .junk, .junk, .junk, .junk, .junk, .junk, .junk, .junk, .sl none (.pair (.int .i64) (.str)) v0, .int .i64 v1, .int .i64 v2, .junk, .junk, .junk, .junk, .junk, .junk, .junk, .junk, .junk, .junk, .junk, .junk, .junk, .junk, .junk, .junk, .junk, .junk, .junk, .junk, .junk, .junk, .junk, .junk, .junk], [[.int .i64 v3, .int .i64 v4, .sl none (.pair (.int .i64) (.pair (.int .i64) (.pair (.int .i64) (.pair (.int .i64) (.int .i64))))) v5], [.str v6, .sl none (.pair (.int .i64) (.str)) v7], [.int .i64 v8, .int .i64 v9], [.int .i64 v10, .int .i64 v11], [.bld (some 0) 98 v12]], [true]⟩
-- the loop at region 11
theorem wire_Encode.l0_eq (n : Nat) (v0 : List ((Int × ByteArray))) (v1 : Int) (v2 : Int) (v3 : Int) (v4 : Int) (v5 : List ((Int × (Int × (Int × (Int × Int)))))) (v6 : ByteArray) (v7 : List ((Int × ByteArray))) (v8 : Int) (v9 : Int) (v10 : Int) (v11 : Int) (v12 : List Int) : wire_Encode.l0 (n + 1) v0 v1 v2 v3 v4 v5 v6 v7 v8 v9 v10 v11 v12 =
  (if v2 < v1 then ((lget v0 v2).bind fun b6 =>
   ((schema_Find.f ((v3, v4, v5), Prod.fst b6)).bind fun b7 =>
   ((cell_Put.f (v3, Prod.fst b7, Prod.snd b6)).bind fun b8 =>
   ((lcat 1 v12 (intsOf (Prod.fst b8))).bind fun b9 =>
   (wire_Encode.l0 n v0 v1 (IntKind.wrap IntKind.i64 (v2 + 1)) v3 v4 v5 v6 v7 v8 v9 v10 v11 b9)))))
  else (some ((bytesOf v12, 0, 0)))) := by kernel_rfl
theorem wire_Encode.eq (n : Nat) (a0 : Int) (a1 : Int) (a2 : List ((Int × (Int × (Int × (Int × Int)))))) (a3 : ByteArray) (a4 : List ((Int × ByteArray))) : call wire_Encode.C Tryz.f11 wire_Encode.code wire_Encode.sg wire_Encode.rs n ((a0, (a1, a2)), (a3, a4)) =
  ((msg_Check.f ((a0, a1, a2), a3, a4)).bind fun b0 =>
  (if ¬Prod.fst b0 = 0 then (some ((ByteArray.mk #[], b0)))
  else ((wire_Type.f (a0, a3)).bind fun b1 =>
   ((lcat 1 [] (intsOf (Prod.fst b1))).bind fun b2 =>
   ((msg_Set.f (a3, a4)).bind fun b3 =>
   ((bitmap_Put.f (a0, b3)).bind fun b4 =>
   ((lcat 1 b2 (intsOf (Prod.fst b4))).bind fun b5 =>
   (wire_Encode.l0 n a4 ((↑(List.length a4) : Int)) 0 a0 a1 a2 a3 a4 0 0 (Prod.fst b0) (Prod.snd b0) b5)))))))) := by kernel_rfl
noncomputable def wire_Encode.f (x : (Int × Int × List S5) × ByteArray × List V) : Option (ByteArray × Int × Int) := if x.1.2.2.length ≤ 1000000 ∧ okM x.2.2 then some (sb (wireE x.1 (bl x.2.1) x.2.2).1, (wireE x.1 (bl x.2.1) x.2.2).2) else none
theorem wire_Encode (a b : Int) (s : List S5) (hs : s.length ≤ 1000000) (t : List UInt8) (l : List V) (hl : okM l) : wire_Encode.f ((a, b, s), sb t, l) = some (sb (wireE (a, b, s) t l).1, (wireE (a, b, s) t l).2) := if_pos ⟨hs, hl⟩
theorem wire_Encode_l (a b : Int) (s : List S5) (hs : s.length ≤ 1000000) (t : ByteArray) (l : List V) (hl : okM l) (c d e f : Int) : ∀ (m : List V) (o : List UInt8) (k i : Nat), l.drop i = m → o.length ≤ 100 + 3000 * i → m.length < k →
    wire_Encode.l0 k l (l.length : Int) (i : Int) a b s t l c d e f (ints o) = some (sb (o ++ fieldsB a s m), 0, 0)
  | [], o, k, i, hd, ho, hk => by
    obtain ⟨k, rfl⟩ : ∃ m, k = m + 1 := ⟨k - 1, by omega⟩
    have := dropn hd
    rw [wire_Encode.l0_eq, if_neg (by omega), str_ints]
    show _ = some (sb (o ++ []), (0 : Int), (0 : Int))
    rw [List.append_nil]
  | v :: m, o, k, i, hd, ho, hk => by
    obtain ⟨k, rfl⟩ : ∃ m, k = m + 1 := ⟨k - 1, by omega⟩
    obtain ⟨h1, h2, h3, h4⟩ := dropc hd
    have hk' : m.length < k := by simp at hk; omega
    have hm : l.length ≤ 1000000 := hl.1
    have hv : v.2.size ≤ 1000000000000 := hl.2 v (List.mem_of_mem_drop (by rw [hd]; exact List.mem_cons_self ..))
    obtain ⟨x, hx⟩ := ex_sb v.2
    have hxl : x.length ≤ 1000000000000 := by rw [hx, size_sb] at hv; exact hv
    have hc : cell_Put.f (a, (findS v.1 s).1, v.2) = some (sb (cellB a s v), (cellPut a (findS v.1 s).1.1 (findS v.1 s).1.2.1 (findS v.1 s).1.2.2.1 (findS v.1 s).1.2.2.2.1 (findS v.1 s).1.2.2.2.2 (bl v.2)).2) := by
      unfold cellB
      rw [hx]
      exact cell_Put a _ _ _ _ _ x hxl
    have hb : (cellB a s v).length ≤ 3000 := cellPut_length ..
    rw [wire_Encode.l0_eq, if_pos (by omega), h4, Option.bind_some, schema_Find a b s hs, Option.bind_some]
    try dsimp only
    rw [hc, Option.bind_some]
    try dsimp only
    rw [lcat_ints _ _ (by omega), Option.bind_some, wrap_succ (by omega), wire_Encode_l a b s hs t l hl c d e f m (o ++ cellB a s v) k (i + 1) h2 (by rw [List.length_append]; omega) hk']
    unfold fieldsB
    rw [List.flatMap_cons, List.append_assoc]
theorem wire_Encode.run (a b : Int) (s : List S5) (hs : s.length ≤ 1000000) (t : List UInt8) (l : List V) (hl : okM l) : call wire_Encode.C Tryz.f11 wire_Encode.code wire_Encode.sg wire_Encode.rs (l.length + 1) ((a, b, s), sb t, l) = some (sb (wireE (a, b, s) t l).1, (wireE (a, b, s) t l).2) := by
  rw [wire_Encode.eq, msg_Check a b s t l hs hl, Option.bind_some]
  unfold wireE
  by_cases c : (msgE (a, b, s) t l).1 = 0
  · have hm : l.length ≤ 1000000 := hl.1
    have h1 := typeB_length a t
    have h2 := bitsB_length a l
    have e0 : (((withAll (l.map Prod.fst) (0, 0)).1 : Int), ((withAll (l.map Prod.fst) (0, 0)).2 : Int)) = (((setV l).1 : Int), ((setV l).2 : Int)) := rfl
    rw [if_neg (not_not_intro c), if_neg (not_not_intro c), wire_Type, Option.bind_some]
    try dsimp only
    rw [show lcat 1 [] (intsOf (sb (typeB a t))) = some (ints (typeB a t)) from lcat_ints [] (typeB a t) (by simp; omega), Option.bind_some, msg_Set (sb t) l (by omega), Option.bind_some, e0, bitmap_Put a _ _ (setV_lt l).1 (setV_lt l).2, Option.bind_some]
    try dsimp only
    rw [show lcat 1 (ints (typeB a t)) (intsOf (sb (bitPut a (setV l).1 (setV l).2).1)) = some (ints (typeB a t ++ bitsB a l)) from lcat_ints (typeB a t) (bitsB a l) (by omega), Option.bind_some]
    exact wire_Encode_l a b s hs (sb t) l hl 0 0 _ _ l (typeB a t ++ bitsB a l) _ 0 rfl (by rw [List.length_append]; omega) (by omega)
  · rw [if_pos c, if_pos c]; rfl
noncomputable def wire_Encode.c : Con := ⟨11, wire_Encode.sg, wire_Encode.rs, wire_Encode.f⟩
theorem wire_Encode.con : ConOk Tryz.prog wire_Encode.c := con_ok (C := wire_Encode.C) (show TabOk Tryz.prog wire_Encode.C.T from tabOk) ⟨AllOk.all (show AllOk wire_Encode.C.G from ⟨wire_Type.con, schema_Find.con, cell_Put.con, msg_Set.con, msg_Check.con, bitmap_Put.con, trivial⟩), fun c hc => by
    rcases List.mem_cons.1 (show c ∈ [bldW 37 98, bldS 42 98] from hc) with rfl | hc
    · exact encodePut_ok
    · rw [List.mem_singleton.1 hc]; exact builderString_ok⟩ mixed (by kernel_rfl) (by kernel_rfl) (by kernel_rfl) fun ⟨⟨a, b, s⟩, t, l⟩ y h => by
  obtain ⟨t, rfl⟩ := ex_sb t
  have h : wire_Encode.f ((a, b, s), sb t, l) = some y := h
  unfold wire_Encode.f at h
  split at h
  · rename_i hc
    exact ⟨l.length + 1, (wire_Encode.run a b s hc.1 t l hc.2).trans h⟩
  · cases h
end Go.Proofs.YtkaihbkfobiejaaGreatDoor.Xe
