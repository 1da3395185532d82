/- What the program's xlate.Check answers. -/
import Derived.Test.YtkaihbkfobiejaaGreatDoorExl
namespace Go.Proofs.YtkaihbkfobiejaaGreatDoor.Xe
open Go Go.RowKit Go.Proofs.YtkaihbkfobiejaaGreatDoor.Sp
set_option linter.unusedVariables false
set_option linter.unusedSimpArgs false
set_option maxRecDepth 100000
/-! ### xlate_find -/
@[reducible] def xlate_find.sg : List Shp := [.a (.pair (.sl (.pair (.str) (.str))) (.sl (.pair (.int .i64) (.pair (.int .i64) (.pair (.int .i64) (.pair (.str) (.sl (.pair (.str) (.str))))))))), .v (.int .i64)]
@[reducible] def xlate_find.rs : Rs := .tup [.a (.pair (.int .i64) (.pair (.int .i64) (.pair (.int .i64) (.pair (.str) (.sl (.pair (.str) (.str))))))), .v (.bool)]
@[reducible] noncomputable def xlate_find.code : Code := Tryz.f63.body.getD .skip
noncomputable def xlate_find.C : Ctx := ⟨tab, [], [], ⟨[(2, [1, 4, 9, 10, 11], 2)], []⟩⟩
noncomputable def xlate_find.l0 (n : Nat) (v0 : Int) (v1 : List ((Int × (Int × (Int × (ByteArray × List ((ByteArray × ByteArray)))))))) (v2 : Int) (v3 : Int) (v4 : List ((ByteArray × ByteArray))) (v5 : List ((Int × (Int × (Int × (ByteArray × List ((ByteArray × ByteArray)))))))) (v6 : Int) (v7 : Int) (v8 : Int) (v9 : ByteArray) : Option (((Int × (Int × (Int × (ByteArray × List ((ByteArray × ByteArray)))))) × Bool)) := run xlate_find.C (finOf xlate_find.C Tryz.f63 xlate_find.rs) n (todoAt 2 xlate_find.code) ⟨[.junk, .int .i64 v0, .junk, .junk, .ptr 1 0, .junk, .junk, .junk, .junk, .sl none (.pair (.int .i64) (.pair (.int .i64) (.pair (.int .i64) (.pair (.str) (.sl (.pair (.str) (.str))))))) v1, .int .i64 v2, .int .i64 v3, .junk, .junk, .junk, .junk, .junk, .junk, .junk, .junk, .junk, .junk], [[.sl none (.pair (.str) (.str)) v4, .sl none (.pair (.int .i64) (.pair (.int .i64) (.pair (.int .i64) (.pair (.str) (.sl (.pair (.str) (.str))))))) v5], [.int .i64 v6, .int .i64 v7, .int .i64 v8, .str v9, .nilsl]], []⟩
-- the loop at region 2
theorem xlate_find.l0_eq (n : Nat) (v0 : Int) (v1 : List ((Int × (Int × (Int × (ByteArray × List ((ByteArray × ByteArray)))))))) (v2 : Int) (v3 : Int) (v4 : List ((ByteArray × ByteArray))) (v5 : List ((Int × (Int × (Int × (ByteArray × List ((ByteArray × ByteArray)))))))) (v6 : Int) (v7 : Int) (v8 : Int) (v9 : ByteArray) : xlate_find.l0 (n + 1) v0 v1 v2 v3 v4 v5 v6 v7 v8 v9 =
  (if v3 < v2 then ((lget v1 v3).bind fun b0 =>
   (if Prod.fst (Prod.snd b0) = v0 then (some ((b0, true)))
   else (xlate_find.l0 n v0 v1 v2 (IntKind.wrap IntKind.i64 (v3 + 1)) v4 v5 v6 v7 v8 v9)))
  else (some (((0, 0, 0, ByteArray.mk #[], []), false)))) := by kernel_rfl
theorem xlate_find.eq (n : Nat) (a0 : List ((ByteArray × ByteArray))) (a1 : List ((Int × (Int × (Int × (ByteArray × List ((ByteArray × ByteArray)))))))) (a2 : Int) : call xlate_find.C Tryz.f63 xlate_find.code xlate_find.sg xlate_find.rs n ((a0, a1), a2) =
  (xlate_find.l0 n a2 a1 ((↑(List.length a1) : Int)) 0 a0 a1 0 0 0 (ByteArray.mk #[])) := by kernel_rfl
/-! ### xlate_head -/
@[reducible] def xlate_head.sg : List Shp := [.a (.pair (.sl (.pair (.str) (.str))) (.sl (.pair (.int .i64) (.pair (.int .i64) (.pair (.int .i64) (.pair (.str) (.sl (.pair (.str) (.str))))))))), .v (.str)]
@[reducible] def xlate_head.rs : Rs := .tup [.v (.str), .v (.bool)]
@[reducible] noncomputable def xlate_head.code : Code := Tryz.f61.body.getD .skip
noncomputable def xlate_head.C : Ctx := ⟨tab, [], [], ⟨[(2, [1, 9, 10, 11], 1)], []⟩⟩
noncomputable def xlate_head.l0 (n : Nat) (v0 : ByteArray) (v1 : List ((ByteArray × ByteArray))) (v2 : Int) (v3 : Int) (v4 : List ((ByteArray × ByteArray))) (v5 : List ((Int × (Int × (Int × (ByteArray × List ((ByteArray × ByteArray)))))))) : Option ((ByteArray × Bool)) := run xlate_head.C (finOf xlate_head.C Tryz.f61 xlate_head.rs) n (todoAt 2 xlate_head.code) ⟨[.junk, .str v0, .junk, .junk, .junk, .junk, .junk, .junk, .junk, .sl none (.pair (.str) (.str)) v1, .int .i64 v2, .int .i64 v3, .junk, .junk, .junk, .junk, .junk, .junk, .junk, .junk, .junk, .junk], [[.sl none (.pair (.str) (.str)) v4, .sl none (.pair (.int .i64) (.pair (.int .i64) (.pair (.int .i64) (.pair (.str) (.sl (.pair (.str) (.str))))))) v5]], []⟩
-- the loop at region 2
theorem xlate_head.l0_eq (n : Nat) (v0 : ByteArray) (v1 : List ((ByteArray × ByteArray))) (v2 : Int) (v3 : Int) (v4 : List ((ByteArray × ByteArray))) (v5 : List ((Int × (Int × (Int × (ByteArray × List ((ByteArray × ByteArray)))))))) : xlate_head.l0 (n + 1) v0 v1 v2 v3 v4 v5 =
  (if v3 < v2 then ((lget v1 v3).bind fun b0 =>
   (if Prod.fst b0 = v0 then (some ((Prod.snd b0, true)))
   else (xlate_head.l0 n v0 v1 v2 (IntKind.wrap IntKind.i64 (v3 + 1)) v4 v5)))
  else (some ((ByteArray.mk #[], false)))) := by kernel_rfl
theorem xlate_head.eq (n : Nat) (a0 : List ((ByteArray × ByteArray))) (a1 : List ((Int × (Int × (Int × (ByteArray × List ((ByteArray × ByteArray)))))))) (a2 : ByteArray) : call xlate_head.C Tryz.f61 xlate_head.code xlate_head.sg xlate_head.rs n ((a0, a1), a2) =
  (xlate_head.l0 n a2 a0 ((↑(List.length a0) : Int)) 0 a0 a1) := by kernel_rfl
/-! ### xlate_Check -/
@[reducible] def xlate_Check.sg : List Shp := [.a (.pair (.sl (.pair (.str) (.str))) (.sl (.pair (.int .i64) (.pair (.int .i64) (.pair (.int .i64) (.pair (.str) (.sl (.pair (.str) (.str))))))))), .a (.pair (.int .i64) (.pair (.int .i64) (.sl (.pair (.int .i64) (.pair (.int .i64) (.pair (.int .i64) (.pair (.int .i64) (.int .i64)))))))), .a (.pair (.int .i64) (.pair (.int .i64) (.sl (.pair (.int .i64) (.pair (.int .i64) (.pair (.int .i64) (.pair (.int .i64) (.int .i64))))))))]
@[reducible] def xlate_Check.rs : Rs := .tup [.v (.int .i64), .v (.int .i64), .v (.int .i64)]
@[reducible] noncomputable def xlate_Check.code : Code := Tryz.f58.body.getD .skip
noncomputable def xlate_Check.C : Ctx := ⟨tab, [fields_Set_Both.c, schema_Check.c, fields_Set_Either.c, xlate_typed.c, rule_Check.c, fields_Of.c], [], ⟨[(2, [3, 4, 5, 26, 27, 28], 3), (12, [3, 4, 5, 13, 48, 49, 50], 4), (24, [4, 5, 16, 17, 77, 78, 79], 6)], []⟩⟩
noncomputable def xlate_Check.l0 (n : Nat) (v0 : List ((Int × (Int × List ((Int × (Int × (Int × (Int × Int))))))))) (v1 : Int) (v2 : Int) (v3 : List ((ByteArray × ByteArray))) (v4 : List ((Int × (Int × (Int × (ByteArray × List ((ByteArray × ByteArray)))))))) (v5 : Int) (v6 : Int) (v7 : List ((Int × (Int × (Int × (Int × Int)))))) (v8 : Int) (v9 : Int) (v10 : List ((Int × (Int × (Int × (Int × Int)))))) : Option ((Int × (Int × Int))) := run xlate_Check.C (finOf xlate_Check.C Tryz.f58 xlate_Check.rs) n (todoAt 2 xlate_Check.code) ⟨[.junk, .junk, .junk, .ptr 0 0, .ptr 1 0, .ptr 2 0, .junk, .junk, .junk, .junk, .junk, .junk, .junk, .junk, .junk, .junk, .junk, .junk, .junk, .junk, .junk, .junk, .junk, .junk, .junk, .junk, .sl (some 0) (.pair (.int .i64) (.pair (.int .i64) (.sl (.pair (.int .i64) (.pair (.int .i64) (.pair (.int .i64) (.pair (.int .i64) (.int .i64)))))))) v0, .int .i64 v1, .int .i64 v2, .junk, .junk, .junk, .junk, .junk, .junk, .junk, .junk, .junk, .junk, .junk, .junk, .junk, .junk, .junk, .junk, .junk, .junk, .junk, .junk, .junk, .junk, .junk, .junk, .junk, .junk, .junk, .junk, .junk, .junk, .junk, .junk, .junk, .junk, .junk, .junk, .junk, .junk, .junk, .junk, .junk, .junk, .junk, .junk, .junk, .junk, .junk, .junk, .junk, .junk, .junk, .junk, .junk, .junk, .junk, .junk, .junk, .junk, .junk, .junk, .junk, .junk, .junk, .junk, .junk, .junk, .junk, .junk, .junk, .junk, .junk, .junk, .junk, .junk, .junk, .junk, .junk, .junk, .junk, .junk, .junk, .junk, .junk, .junk, .junk, .junk, .junk, .junk, .junk, .junk, .junk, .junk], [[.sl none (.pair (.str) (.str)) v3, .sl none (.pair (.int .i64) (.pair (.int .i64) (.pair (.int .i64) (.pair (.str) (.sl (.pair (.str) (.str))))))) v4], [.int .i64 v5, .int .i64 v6, .sl none (.pair (.int .i64) (.pair (.int .i64) (.pair (.int .i64) (.pair (.int .i64) (.int .i64))))) v7], [.int .i64 v8, .int .i64 v9, .sl none (.pair (.int .i64) (.pair (.int .i64) (.pair (.int .i64) (.pair (.int .i64) (.int .i64))))) v10]], [true]⟩
noncomputable def xlate_Check.l1 (n : Nat) (v0 : List ((ByteArray × ByteArray))) (v1 : Int) (v2 : Int) (v3 : List ((ByteArray × ByteArray))) (v4 : List ((Int × (Int × (Int × (ByteArray × List ((ByteArray × ByteArray)))))))) (v5 : Int) (v6 : Int) (v7 : List ((Int × (Int × (Int × (Int × Int)))))) (v8 : Int) (v9 : Int) (v10 : List ((Int × (Int × (Int × (Int × Int)))))) (v11 : List ByteArray) : Option ((Int × (Int × Int))) := run xlate_Check.C (finOf xlate_Check.C Tryz.f58 xlate_Check.rs) n (todoAt 12 xlate_Check.code) ⟨[.junk, .junk, .junk, .ptr 0 0, .ptr 1 0, .ptr 2 0, .junk, .junk, .junk, .junk, .junk, .junk, .junk, .mp 3, .junk, .junk, .junk, .junk, .junk, .junk, .junk, .junk, .junk, .junk, .junk, .junk, .junk, .junk, .junk, .junk, .junk, .junk, .junk, .junk, .junk, .junk, .junk, .junk, .junk, .junk, .junk, .junk, .junk, .junk, .junk, .junk, .junk, .junk, .sl none (.pair (.str) (.str)) v0, .int .i64 v1, .int .i64 v2, .junk, .junk, .junk, .junk, .junk, .junk, .junk, .junk, .junk, .junk, .junk, .junk, .junk, .junk, .junk, .junk, .junk, .junk, .junk, .junk, .junk, .junk, .junk, .junk, .junk, .junk, .junk, .junk, .junk, .junk, .junk, .junk, .junk, .junk, .junk, .junk, .junk, .junk, .junk, .junk, .junk, .junk, .junk, .junk, .junk, .junk, .junk, .junk, .junk, .junk, .junk, .junk, .junk, .junk, .junk, .junk, .junk, .junk, .junk, .junk, .junk, .junk, .junk, .junk, .junk, .junk, .junk, .junk, .junk, .junk], [[.sl none (.pair (.str) (.str)) v3, .sl none (.pair (.int .i64) (.pair (.int .i64) (.pair (.int .i64) (.pair (.str) (.sl (.pair (.str) (.str))))))) v4], [.int .i64 v5, .int .i64 v6, .sl none (.pair (.int .i64) (.pair (.int .i64) (.pair (.int .i64) (.pair (.int .i64) (.int .i64))))) v7], [.int .i64 v8, .int .i64 v9, .sl none (.pair (.int .i64) (.pair (.int .i64) (.pair (.int .i64) (.pair (.int .i64) (.int .i64))))) v10], [.keys 9 4 (.str) v11]], []⟩
noncomputable def xlate_Check.l2 (n : Nat) (v0 : List ((Int × (Int × (Int × (ByteArray × List ((ByteArray × ByteArray)))))))) (v1 : Int) (v2 : Int) (v3 : List ((ByteArray × ByteArray))) (v4 : List ((Int × (Int × (Int × (ByteArray × List ((ByteArray × ByteArray)))))))) (v5 : Int) (v6 : Int) (v7 : List ((Int × (Int × (Int × (Int × Int)))))) (v8 : Int) (v9 : Int) (v10 : List ((Int × (Int × (Int × (Int × Int)))))) (v11 : List ByteArray) (v12 : Int) (v13 : Int) (v14 : Int) (v15 : Int) : Option ((Int × (Int × Int))) := run xlate_Check.C (finOf xlate_Check.C Tryz.f58 xlate_Check.rs) n (todoAt 24 xlate_Check.code) ⟨[.junk, .junk, .junk, .junk, .ptr 1 0, .ptr 2 0, .junk, .junk, .junk, .junk, .junk, .junk, .junk, .junk, .junk, .junk, .ptr 4 0, .ptr 5 0, .junk, .junk, .junk, .junk, .junk, .junk, .junk, .junk, .junk, .junk, .junk, .junk, .junk, .junk, .junk, .junk, .junk, .junk, .junk, .junk, .junk, .junk, .junk, .junk, .junk, .junk, .junk, .junk, .junk, .junk, .junk, .junk, .junk, .junk, .junk, .junk, .junk, .junk, .junk, .junk, .junk, .junk, .junk, .junk, .junk, .junk, .junk, .junk, .junk, .junk, .junk, .junk, .junk, .junk, .junk, .junk, .junk, .junk, .junk, .sl none (.pair (.int .i64) (.pair (.int .i64) (.pair (.int .i64) (.pair (.str) (.sl (.pair (.str) (.str))))))) v0, .int .i64 v1, .int .i64 v2, .junk, .junk, .junk, .junk, .junk, .junk, .junk, .junk, .junk, .junk, .junk, .junk, .junk, .junk, .junk, .junk, .junk, .junk, .junk, .junk, .junk, .junk, .junk, .junk, .junk, .junk, .junk, .junk, .junk, .junk, .junk, .junk, .junk, .junk, .junk, .junk, .junk, .junk, .junk, .junk, .junk], [[.sl none (.pair (.str) (.str)) v3, .sl none (.pair (.int .i64) (.pair (.int .i64) (.pair (.int .i64) (.pair (.str) (.sl (.pair (.str) (.str))))))) v4], [.int .i64 v5, .int .i64 v6, .sl none (.pair (.int .i64) (.pair (.int .i64) (.pair (.int .i64) (.pair (.int .i64) (.int .i64))))) v7], [.int .i64 v8, .int .i64 v9, .sl none (.pair (.int .i64) (.pair (.int .i64) (.pair (.int .i64) (.pair (.int .i64) (.int .i64))))) v10], [.keys 9 4 (.str) v11], [.int .u64 v12, .int .u64 v13], [.int .u64 v14, .int .u64 v15]], []⟩
-- the loop at region 2
theorem xlate_Check.l0_eq (n : Nat) (v0 : List ((Int × (Int × List ((Int × (Int × (Int × (Int × Int))))))))) (v1 : Int) (v2 : Int) (v3 : List ((ByteArray × ByteArray))) (v4 : List ((Int × (Int × (Int × (ByteArray × List ((ByteArray × ByteArray)))))))) (v5 : Int) (v6 : Int) (v7 : List ((Int × (Int × (Int × (Int × Int)))))) (v8 : Int) (v9 : Int) (v10 : List ((Int × (Int × (Int × (Int × Int)))))) : xlate_Check.l0 (n + 1) v0 v1 v2 v3 v4 v5 v6 v7 v8 v9 v10 =
  (if v2 < v1 then ((lget v0 v2).bind fun b0 =>
   ((schema_Check.f b0).bind fun b1 =>
   (if ¬Prod.fst b1 = 0 then (some ((1, 1, v2)))
   else (xlate_Check.l0 n v0 v1 (IntKind.wrap IntKind.i64 (v2 + 1)) v3 v4 v5 v6 v7 v8 v9 v10))))
  else (if (↑(List.length v3) : Int) > 256 then (some ((5, 2, 256)))
   else (xlate_Check.l1 n v3 ((↑(List.length v3) : Int)) 0 v3 v4 v5 v6 v7 v8 v9 v10 []))) := by kernel_rfl
-- the loop at region 12
theorem xlate_Check.l1_eq (n : Nat) (v0 : List ((ByteArray × ByteArray))) (v1 : Int) (v2 : Int) (v3 : List ((ByteArray × ByteArray))) (v4 : List ((Int × (Int × (Int × (ByteArray × List ((ByteArray × ByteArray)))))))) (v5 : Int) (v6 : Int) (v7 : List ((Int × (Int × (Int × (Int × Int)))))) (v8 : Int) (v9 : Int) (v10 : List ((Int × (Int × (Int × (Int × Int)))))) (v11 : List ByteArray) : xlate_Check.l1 (n + 1) v0 v1 v2 v3 v4 v5 v6 v7 v8 v9 v10 v11 =
  (if v2 < v1 then ((lget v0 v2).bind fun b2 =>
   ((xlate_typed.f (b2, (v5, v6, v7), v8, v9, v10)).bind fun b3 =>
   (if ¬b3 = true then (some ((7, 2, v2)))
   else (if ByteArray.size (Prod.fst b2) ≤ 9223372036854775807 then (if Prod.fst b2 ∈ v11 then (some ((10, 2, v2)))
     else (if ByteArray.size (Prod.fst b2) ≤ 9223372036854775807 ∧ List.length v11 < 9223372036854775807 then (xlate_Check.l1 n v0 v1 (IntKind.wrap IntKind.i64 (v2 + 1)) v3 v4 v5 v6 v7 v8 v9 v10 (v11 ++ [Prod.fst b2]))
      else none))
    else none))))
  else (if (↑(List.length v4) : Int) > 256 then (some ((5, 3, 256)))
   else (xlate_Check.l2 n v4 ((↑(List.length v4) : Int)) 0 v3 v4 v5 v6 v7 v8 v9 v10 v11 0 0 0 0))) := by kernel_rfl
-- the loop at region 24
theorem xlate_Check.l2_eq (n : Nat) (v0 : List ((Int × (Int × (Int × (ByteArray × List ((ByteArray × ByteArray)))))))) (v1 : Int) (v2 : Int) (v3 : List ((ByteArray × ByteArray))) (v4 : List ((Int × (Int × (Int × (ByteArray × List ((ByteArray × ByteArray)))))))) (v5 : Int) (v6 : Int) (v7 : List ((Int × (Int × (Int × (Int × Int)))))) (v8 : Int) (v9 : Int) (v10 : List ((Int × (Int × (Int × (Int × Int)))))) (v11 : List ByteArray) (v12 : Int) (v13 : Int) (v14 : Int) (v15 : Int) : xlate_Check.l2 (n + 1) v0 v1 v2 v3 v4 v5 v6 v7 v8 v9 v10 v11 v12 v13 v14 v15 =
  (if v2 < v1 then ((lget v0 v2).bind fun b4 =>
   ((rule_Check.f (b4, (v5, v6, v7), v8, v9, v10)).bind fun b5 =>
   (if ¬b5 = 0 then (some ((b5, 3, v2)))
   else ((fields_Of.f [Prod.fst (Prod.snd b4)]).bind fun b6 =>
    ((fields_Of.f [Prod.fst (Prod.snd (Prod.snd b4))]).bind fun b7 =>
    ((fields_Set_Both.f ((v12, v13), b6)).bind fun b8 =>
    (if ¬(Prod.fst b8 = 0 ∧ Prod.snd b8 = 0 ∧ True) then (some ((10, 3, v2)))
    else ((fields_Set_Both.f ((v14, v15), b7)).bind fun b9 =>
     (if ¬(Prod.fst b9 = 0 ∧ Prod.snd b9 = 0 ∧ True) then (some ((10, 3, v2)))
     else ((fields_Set_Either.f ((v12, v13), b6)).bind fun b10 =>
      ((fields_Set_Either.f ((v14, v15), b7)).bind fun b11 =>
      (xlate_Check.l2 n v0 v1 (IntKind.wrap IntKind.i64 (v2 + 1)) v3 v4 v5 v6 v7 v8 v9 v10 v11 (Prod.fst b10) (Prod.snd b10) (Prod.fst b11) (Prod.snd b11)))))))))))))
  else (some ((0, 0, 0)))) := by kernel_rfl
theorem xlate_Check.eq (n : Nat) (a0 : List ((ByteArray × ByteArray))) (a1 : List ((Int × (Int × (Int × (ByteArray × List ((ByteArray × ByteArray)))))))) (a2 : Int) (a3 : Int) (a4 : List ((Int × (Int × (Int × (Int × Int)))))) (a5 : Int) (a6 : Int) (a7 : List ((Int × (Int × (Int × (Int × Int)))))) : call xlate_Check.C Tryz.f58 xlate_Check.code xlate_Check.sg xlate_Check.rs n ((a0, a1), ((a2, (a3, a4)), (a5, (a6, a7)))) =
  (xlate_Check.l0 n ([(a2, a3, a4), (a5, a6, a7)]) ((↑(List.length [(a2, a3, a4), (a5, a6, a7)]) : Int)) 0 a0 a1 a2 a3 a4 a5 a6 a7) := by kernel_rfl
def okC (m : RC) : Prop := okP m.1 ∧ m.2.length ≤ 100000 ∧ ∀ r ∈ m.2, okR r
instance (m : RC) : Decidable (okC m) := by unfold okC; infer_instance
noncomputable def xlate_find.f (x : RC × Int) : Option (RU × Bool) := if okC x.1 then some (ruleOf x.2 x.1.2) else none
theorem xlate_find (m : RC) (hm : okC m) (n : Int) : xlate_find.f (m, n) = some (ruleOf n m.2) := if_pos hm
theorem xlate_find_l (l : List RU) (hl : l.length ≤ 100000) (n : Int) (c : List PB) (a b d : Int) (e : ByteArray) : ∀ (m : List RU) (k i : Nat), l.drop i = m → m.length < k → xlate_find.l0 k n l (l.length : Int) (i : Int) c l a b d e = some (ruleOf n m)
  | [], k, i, hd, hk => by
    obtain ⟨k, rfl⟩ : ∃ m, k = m + 1 := ⟨k - 1, by omega⟩
    have := dropn hd
    rw [xlate_find.l0_eq, if_neg (by omega)]; rfl
  | r :: m, k, i, hd, hk => by
    obtain ⟨k, rfl⟩ : ∃ m, k = m + 1 := ⟨k - 1, by omega⟩
    obtain ⟨h1, h2, h3, h4⟩ := dropc hd
    have hk' : m.length < k := by simp at hk; omega
    rw [xlate_find.l0_eq, if_pos (by omega), h4, Option.bind_some, wrap_succ (by omega), xlate_find_l l hl n c a b d e m k (i + 1) h2 hk', ruleOf]
    split <;> rfl
noncomputable def xlate_find.c : Con := ⟨63, xlate_find.sg, xlate_find.rs, xlate_find.f⟩
theorem xlate_find.con : ConOk Tryz.prog xlate_find.c := walked (C := xlate_find.C) rfl (by kernel_rfl) (by kernel_rfl) (by kernel_rfl) rfl trivial fun ⟨⟨c, l⟩, n⟩ y h => by
  have h : xlate_find.f ((c, l), n) = some y := h
  unfold xlate_find.f at h
  split at h
  · rename_i hc
    exact ⟨l.length + 1, by rw [xlate_find.eq, ← h]; exact xlate_find_l l hc.2.1 n c 0 0 0 _ l _ 0 rfl (by omega)⟩
  · cases h
noncomputable def xlate_head.f (x : RC × ByteArray) : Option (ByteArray × Bool) := if okC x.1 then some (applyP x.2 x.1.1) else none
theorem xlate_head (m : RC) (hm : okC m) (t : ByteArray) : xlate_head.f (m, t) = some (applyP t m.1) := if_pos hm
theorem xlate_head_l (l : List PB) (hl : okP l) (t : ByteArray) (c : List RU) : ∀ (m : List PB) (k i : Nat), l.drop i = m → m.length < k → xlate_head.l0 k t l (l.length : Int) (i : Int) l c = some (applyP t m)
  | [], k, i, hd, hk => by
    obtain ⟨k, rfl⟩ : ∃ m, k = m + 1 := ⟨k - 1, by omega⟩
    have := dropn hd
    rw [xlate_head.l0_eq, if_neg (by omega)]; rfl
  | p :: m, k, i, hd, hk => by
    obtain ⟨k, rfl⟩ : ∃ m, k = m + 1 := ⟨k - 1, by omega⟩
    obtain ⟨h1, h2, h3, h4⟩ := dropc hd
    have hk' : m.length < k := by simp at hk; omega
    have hl1 := hl.1
    rw [xlate_head.l0_eq, if_pos (by omega), h4, Option.bind_some, wrap_succ (by omega), xlate_head_l l hl t c m k (i + 1) h2 hk', applyP]
    split <;> rfl
noncomputable def xlate_head.c : Con := ⟨61, xlate_head.sg, xlate_head.rs, xlate_head.f⟩
theorem xlate_head.con : ConOk Tryz.prog xlate_head.c := walked (C := xlate_head.C) rfl (by kernel_rfl) (by kernel_rfl) (by kernel_rfl) rfl trivial fun ⟨⟨l, c⟩, t⟩ y h => by
  have h : xlate_head.f ((l, c), t) = some y := h
  unfold xlate_head.f at h
  split at h
  · rename_i hc
    exact ⟨l.length + 1, by rw [xlate_head.eq, ← h]; exact xlate_head_l l hc.1 t c l _ 0 rfl (by omega)⟩
  · cases h
abbrev SC := Int × Int × List S5
noncomputable def xlate_Check.f (x : RC × SC × SC) : Option (Int × Int × Int) := if okC x.1 ∧ x.2.1.2.2.length ≤ 1000000 ∧ x.2.2.2.2.length ≤ 1000000 then some (mapE x.1 x.2.1 x.2.2) else none
theorem xlate_Check (m : RC) (hm : okC m) (a b : SC) (ha : a.2.2.length ≤ 1000000) (hb : b.2.2.length ≤ 1000000) : xlate_Check.f (m, a, b) = some (mapE m a b) := if_pos ⟨hm, ha, hb⟩
theorem one_of (n : Int) : fields_Of.f [n] = some ((fb1 n : Int), (fb2 n : Int)) := by
  rw [fields_Of [n] (by simp)]
  simp only [withAll, Nat.zero_or]
section
variable (p : List PB) (l : List RU) (hp : okP p) (hl : l.length ≤ 100000) (hr : ∀ r ∈ l, okR r) (x v y w : Int) (a b : List S5) (ha : a.length ≤ 1000000) (hb : b.length ≤ 1000000)
include hl hr ha hb
theorem xlate_Check_l2 (seen : List ByteArray) : ∀ (m : List RU) (k i f1 f2 t1 t2 : Nat), l.drop i = m → f1 < 18446744073709551616 → f2 < 18446744073709551616 → t1 < 18446744073709551616 → t2 < 18446744073709551616 → m.length < k →
    xlate_Check.l2 k l (l.length : Int) (i : Int) p l x v a y w b seen (f1 : Int) (f2 : Int) (t1 : Int) (t2 : Int) = some (rulesL a b m i (f1, f2) (t1, t2))
  | [], k, i, f1, f2, t1, t2, hd, h1, h2, h3, h4, hk => by
    obtain ⟨k, rfl⟩ : ∃ m, k = m + 1 := ⟨k - 1, by omega⟩
    have := dropn hd
    rw [xlate_Check.l2_eq, if_neg (by omega)]; rfl
  | r :: m, k, i, f1, f2, t1, t2, hd, g1, g2, g3, g4, hk => by
    obtain ⟨k, rfl⟩ : ∃ m, k = m + 1 := ⟨k - 1, by omega⟩
    obtain ⟨h1, h2, h3, h4⟩ := dropc hd
    have hk' : m.length < k := by simp at hk; omega
    have hri := hr r (by have := List.drop_subset i l (a := r); rw [hd] at this; exact this (List.mem_cons_self ..))
    rw [xlate_Check.l2_eq, if_pos (by omega), h4, Option.bind_some, rule_Check r hri x v y w a b ha hb, Option.bind_some, rulesL]
    by_cases c1 : ¬ ruleE r a b = 0
    · rw [if_pos c1, if_pos c1]
    rw [if_neg c1, if_neg c1, one_of, Option.bind_some, one_of, Option.bind_some, fields_Set_Both f1 f2 _ _ g1 g2 (fb1_lt _) (fb2_lt _), Option.bind_some]
    have z : ∀ (q1 q2 : Nat), (¬ (((q1 : Nat) : Int) = 0 ∧ ((q2 : Nat) : Int) = 0 ∧ True)) ↔ ¬ (q1 = 0 ∧ q2 = 0) := fun q1 q2 => not_congr (by rw [and_true]; omega)
    by_cases c2 : ¬ (f1 &&& fb1 r.2.1 = 0 ∧ f2 &&& fb2 r.2.1 = 0)
    · rw [if_pos ((z _ _).2 c2), if_pos c2]
    rw [if_neg (fun h => c2 ((z _ _).1 h)), if_neg c2, fields_Set_Both t1 t2 _ _ g3 g4 (fb1_lt _) (fb2_lt _), Option.bind_some]
    by_cases c3 : ¬ (t1 &&& fb1 r.2.2.1 = 0 ∧ t2 &&& fb2 r.2.2.1 = 0)
    · rw [if_pos ((z _ _).2 c3), if_pos c3]
    rw [if_neg (fun h => c3 ((z _ _).1 h)), if_neg c3, fields_Set_Either f1 f2 _ _ g1 g2 (fb1_lt _) (fb2_lt _), Option.bind_some, fields_Set_Either t1 t2 _ _ g3 g4 (fb1_lt _) (fb2_lt _), Option.bind_some, wrap_succ (by omega)]
    exact xlate_Check_l2 seen m k (i + 1) _ _ _ _ h2 (Nat.or_lt_two_pow (n := 64) g1 (fb1_lt _)) (Nat.or_lt_two_pow (n := 64) g2 (fb2_lt _)) (Nat.or_lt_two_pow (n := 64) g3 (fb1_lt _)) (Nat.or_lt_two_pow (n := 64) g4 (fb2_lt _)) hk'
include hp
theorem xlate_Check_l1 : ∀ (m : List PB) (seen : List ByteArray) (k i : Nat), p.drop i = m → seen.length ≤ i → m.length + l.length + 1 < k →
    xlate_Check.l1 k p (p.length : Int) (i : Int) p l x v a y w b seen = some (match mtisL v w m seen i with
      | some e => e
      | none => if 256 < l.length then (5, 3, 256) else rulesL a b l 0 (0, 0) (0, 0))
  | [], seen, k, i, hd, hs, hk => by
    obtain ⟨k, rfl⟩ : ∃ m, k = m + 1 := ⟨k - 1, by omega⟩
    have := dropn hd
    rw [xlate_Check.l1_eq, if_neg (by omega), mtisL]
    by_cases c : 256 < l.length
    · rw [if_pos (by omega), if_pos c]
    · rw [if_neg (by omega), if_neg c]
      exact xlate_Check_l2 p l hl hr x v y w a b ha hb seen l k 0 0 0 0 0 rfl (by decide) (by decide) (by decide) (by decide) (by simp at hk; omega)
  | q :: m, seen, k, i, hd, hs, hk => by
    obtain ⟨k, rfl⟩ : ∃ m, k = m + 1 := ⟨k - 1, by omega⟩
    obtain ⟨h1, h2, h3, h4⟩ := dropc hd
    have hk' : m.length + l.length + 1 < k := by simp at hk; omega
    have hp1 := hp.1
    have hq := (hp.2 q (by have := List.drop_subset i p (a := q); rw [hd] at this; exact this (List.mem_cons_self ..))).1
    rw [xlate_Check.l1_eq, if_pos (by omega), h4, Option.bind_some, xlate_typed, Option.bind_some, mtisL]
    cases c1 : typedP q v w
    · rw [if_pos (by simp), if_pos rfl]
    rw [if_neg (by simp), if_neg (by simp : ¬ (true = false)), if_pos (by omega)]
    by_cases c2 : q.1 ∈ seen
    · rw [if_pos c2, if_pos c2]
    rw [if_neg c2, if_neg c2, if_pos (⟨by omega, by omega⟩ : q.1.size ≤ 9223372036854775807 ∧ seen.length < 9223372036854775807), wrap_succ (by omega)]
    exact xlate_Check_l1 m _ k (i + 1) h2 (by rw [List.length_append, List.length_singleton]; omega) hk'
theorem xlate_Check_l0 (k : Nat) (hk : p.length + l.length + 10 < k) : xlate_Check.l0 k [(x, v, a), (y, w, b)] (([(x, v, a), (y, w, b)].length : Nat) : Int) 0 p l x v a y w b = some (mapE (p, l) (x, v, a) (y, w, b)) := by
  obtain ⟨k, rfl⟩ : ∃ m, k = m + 3 := ⟨k - 3, by omega⟩
  have g0 : lget [(x, v, a), (y, w, b)] 0 = some (x, v, a) := rfl
  have g1 : lget [(x, v, a), (y, w, b)] ((1 : Nat) : Int) = some (y, w, b) := rfl
  rw [xlate_Check.l0_eq, if_pos (by simp), g0, Option.bind_some, schema_Check x v a ha, Option.bind_some, mapE]
  dsimp only
  by_cases c1 : ¬ (schemaE (x, v, a)).1 = 0
  · rw [if_pos c1, if_pos c1]
  rw [if_neg c1, if_neg c1, show IntKind.wrap .i64 ((0 : Int) + 1) = ((1 : Nat) : Int) from wrap_succ (n := 0) (by decide), xlate_Check.l0_eq, if_pos (by simp), g1, Option.bind_some, schema_Check y w b hb, Option.bind_some]
  by_cases c2 : ¬ (schemaE (y, w, b)).1 = 0
  · rw [if_pos c2, if_pos c2]; rfl
  rw [if_neg c2, if_neg c2, wrap_succ (by decide), xlate_Check.l0_eq, if_neg (by simp)]
  by_cases c3 : 256 < p.length
  · rw [if_pos c3, if_pos (by omega)]
  rw [if_neg c3, if_neg (by omega)]
  exact xlate_Check_l1 p l hp hl hr x v y w a b ha hb p [] k 0 rfl (by simp) (by omega)
end
noncomputable def xlate_Check.c : Con := ⟨58, xlate_Check.sg, xlate_Check.rs, xlate_Check.f⟩
theorem xlate_Check.con : ConOk Tryz.prog xlate_Check.c := walked (C := xlate_Check.C) rfl (by kernel_rfl) (by kernel_rfl) (by kernel_rfl) rfl ⟨fields_Set_Both.con, schema_Check.con, fields_Set_Either.con, xlate_typed.con, rule_Check.con, fields_Of.con, trivial⟩ fun ⟨⟨p, l⟩, ⟨x, v, a⟩, ⟨y, w, b⟩⟩ z h => by
  have h : xlate_Check.f ((p, l), (x, v, a), (y, w, b)) = some z := h
  unfold xlate_Check.f at h
  split at h
  · rename_i hc
    exact ⟨p.length + l.length + 11, by rw [xlate_Check.eq, ← h]; exact xlate_Check_l0 p l hc.1.1 hc.1.2.1 hc.1.2.2 x v y w a b hc.2.1 hc.2.2 _ (by omega)⟩
  · cases h
end Go.Proofs.YtkaihbkfobiejaaGreatDoor.Xe
