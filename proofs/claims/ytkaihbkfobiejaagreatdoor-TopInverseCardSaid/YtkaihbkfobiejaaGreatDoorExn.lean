/- What the program's xlate.Translate and route.Check answer. -/
import Derived.Test.YtkaihbkfobiejaaGreatDoorExm
import Derived.Test.YtkaihbkfobiejaaGreatDoorEgf
import Derived.Test.YtkaihbkfobiejaaGreatDoorEdp
namespace Go.Proofs.YtkaihbkfobiejaaGreatDoor.Xe
open Go Go.RowKit Go.Proofs.YtkaihbkfobiejaaGreatDoor.Sp
set_option linter.unusedVariables false
set_option linter.unusedSimpArgs false
set_option maxRecDepth 100000
/-! ### rule_Apply -/
@[reducible] def rule_Apply.sg : List Shp := [.a (.pair (.int .i64) (.pair (.int .i64) (.pair (.int .i64) (.pair (.str) (.sl (.pair (.str) (.str))))))), .a (.pair (.int .i64) (.pair (.int .i64) (.sl (.pair (.int .i64) (.pair (.int .i64) (.pair (.int .i64) (.pair (.int .i64) (.int .i64)))))))), .v (.str)]
@[reducible] def rule_Apply.rs : Rs := .tup [.a (.pair (.int .i64) (.str)), .v (.int .i64)]
@[reducible] noncomputable def rule_Apply.code : Code := Tryz.f64.body.getD .skip
noncomputable def rule_Apply.C : Ctx := ⟨tab, [schema_Find.c, digits_Pad.c, codes_Apply.c], [], ⟨[], []⟩⟩
theorem rule_Apply.eq (n : Nat) (a0 : Int) (a1 : Int) (a2 : Int) (a3 : ByteArray) (a4 : List ((ByteArray × ByteArray))) (a5 : Int) (a6 : Int) (a7 : List ((Int × (Int × (Int × (Int × Int)))))) (a8 : ByteArray) : call rule_Apply.C Tryz.f64 rule_Apply.code rule_Apply.sg rule_Apply.rs n ((a0, (a1, (a2, (a3, a4)))), ((a5, (a6, a7)), a8)) =
  (if a0 = 1 then (some (((a2, a8), 0)))
  else (if a0 = 2 then (some (((0, ByteArray.mk #[]), 0)))
   else (if a0 = 3 then (some (((a2, a3), 0)))
    else (if a0 = 4 then ((schema_Find.f ((a5, a6, a7), a2)).bind fun b0 =>
      (if ¬Prod.snd b0 = true then (some (((0, ByteArray.mk #[]), 9)))
      else ((digits_Pad.f (a8, Prod.fst (Prod.snd (Prod.snd (Prod.snd (Prod.fst b0)))))).bind fun b1 =>
       (if ¬Prod.snd b1 = true then (some (((0, ByteArray.mk #[]), 5)))
       else (some (((a2, Prod.fst b1), 0)))))))
     else (if a0 = 5 then ((codes_Apply.f (a4, a8)).bind fun b2 =>
       (if ¬Prod.snd b2 = true then (some (((0, ByteArray.mk #[]), 15)))
       else (some (((a2, Prod.fst b2), 0)))))
      else (some (((0, ByteArray.mk #[]), 1)))))))) := by kernel_rfl
noncomputable def rule_Apply.f : El (sgTy rule_Apply.sg) → Option (El rule_Apply.rs.ty) := fun x => match x with
  | ((a0, (a1, (a2, (a3, a4)))), ((a5, (a6, a7)), a8)) =>
  (if a0 = 1 then (some (((a2, a8), 0)))
  else (if a0 = 2 then (some (((0, ByteArray.mk #[]), 0)))
   else (if a0 = 3 then (some (((a2, a3), 0)))
    else (if a0 = 4 then ((schema_Find.f ((a5, a6, a7), a2)).bind fun b0 =>
      (if ¬Prod.snd b0 = true then (some (((0, ByteArray.mk #[]), 9)))
      else ((digits_Pad.f (a8, Prod.fst (Prod.snd (Prod.snd (Prod.snd (Prod.fst b0)))))).bind fun b1 =>
       (if ¬Prod.snd b1 = true then (some (((0, ByteArray.mk #[]), 5)))
       else (some (((a2, Prod.fst b1), 0)))))))
     else (if a0 = 5 then ((codes_Apply.f (a4, a8)).bind fun b2 =>
       (if ¬Prod.snd b2 = true then (some (((0, ByteArray.mk #[]), 15)))
       else (some (((a2, Prod.fst b2), 0)))))
      else (some (((0, ByteArray.mk #[]), 1))))))))
noncomputable def rule_Apply.c : Con := ⟨64, rule_Apply.sg, rule_Apply.rs, rule_Apply.f⟩
theorem rule_Apply.con : ConOk Tryz.prog rule_Apply.c := walked (C := rule_Apply.C) rfl (by kernel_rfl) (by kernel_rfl) (by kernel_rfl) rfl ⟨schema_Find.con, digits_Pad.con, codes_Apply.con, trivial⟩ fun ⟨⟨a0, ⟨a1, ⟨a2, ⟨a3, a4⟩⟩⟩⟩, ⟨⟨a5, ⟨a6, a7⟩⟩, a8⟩⟩ y h => ⟨0, (rule_Apply.eq 0 a0 a1 a2 a3 a4 a5 a6 a7 a8).trans h⟩
/-! ### xlate_Translate -/
@[reducible] def xlate_Translate.sg : List Shp := [.a (.pair (.sl (.pair (.str) (.str))) (.sl (.pair (.int .i64) (.pair (.int .i64) (.pair (.int .i64) (.pair (.str) (.sl (.pair (.str) (.str))))))))), .a (.pair (.int .i64) (.pair (.int .i64) (.sl (.pair (.int .i64) (.pair (.int .i64) (.pair (.int .i64) (.pair (.int .i64) (.int .i64)))))))), .a (.pair (.int .i64) (.pair (.int .i64) (.sl (.pair (.int .i64) (.pair (.int .i64) (.pair (.int .i64) (.pair (.int .i64) (.int .i64)))))))), .a (.pair (.str) (.sl (.pair (.int .i64) (.str))))]
@[reducible] def xlate_Translate.rs : Rs := .tup [.a (.pair (.str) (.sl (.pair (.int .i64) (.str)))), .a (.pair (.int .i64) (.int .i64))]
@[reducible] noncomputable def xlate_Translate.code : Code := Tryz.f25.body.getD .skip
noncomputable def xlate_Translate.C : Ctx := ⟨tab, [msg_Check.c, xlate_Check.c, xlate_head.c, msg_With.c, xlate_find.c, rule_Apply.c], [], ⟨[(12, [4, 6, 7, 8, 9, 16, 59, 60, 61], 8), (18, [4, 6, 8, 9, 16, 76, 77, 78], 8)], []⟩⟩
noncomputable def xlate_Translate.l0 (n : Nat) (v0 : List ((Int × (Int × (Int × (ByteArray × List ((ByteArray × ByteArray)))))))) (v1 : Int) (v2 : Int) (v3 : List ((ByteArray × ByteArray))) (v4 : List ((Int × (Int × (Int × (ByteArray × List ((ByteArray × ByteArray)))))))) (v5 : Int) (v6 : Int) (v7 : List ((Int × (Int × (Int × (Int × Int)))))) (v8 : Int) (v9 : Int) (v10 : List ((Int × (Int × (Int × (Int × Int)))))) (v11 : ByteArray) (v12 : List ((Int × ByteArray))) (v13 : ByteArray) (v14 : Int) (v15 : Int) (v16 : Int) (v17 : Int) (v18 : ByteArray) : Option (((ByteArray × List ((Int × ByteArray))) × (Int × Int))) := run xlate_Translate.C (finOf xlate_Translate.C Tryz.f25 xlate_Translate.rs) n (todoAt 12 xlate_Translate.code) ⟨[.junk, .junk, .junk, .junk, .ptr 0 0, .junk, .ptr 2 0, .ptr 3 0, .ptr 4 0, .ptr 5 0, .junk, .junk, .junk, .junk, .junk, .junk, .ptr 7 0, .junk, .junk, .junk, .junk, .junk, .junk, .junk, .junk, .junk, .junk, .junk, .junk, .junk, .junk, .junk, .junk, .junk, .junk, .junk, .junk, .junk, .junk, .junk, .junk, .junk, .junk, .junk, .junk, .junk, .junk, .junk, .junk, .junk, .junk, .junk, .junk, .junk, .junk, .junk, .junk, .junk, .junk, .sl none (.pair (.int .i64) (.pair (.int .i64) (.pair (.int .i64) (.pair (.str) (.sl (.pair (.str) (.str))))))) v0, .int .i64 v1, .int .i64 v2, .junk, .junk, .junk, .junk, .junk, .junk, .junk, .junk, .junk, .junk, .junk, .junk, .junk, .junk, .junk, .junk, .junk, .junk, .junk, .junk, .junk, .junk, .junk, .junk, .junk, .junk, .junk, .junk, .junk, .junk, .junk, .junk, .junk, .junk, .junk, .junk, .junk, .junk, .junk, .junk, .junk, .junk, .junk, .junk, .junk, .junk, .junk, .junk, .junk, .junk, .junk, .junk, .junk, .junk, .junk, .junk, .junk, .junk, .junk, .junk], [[.sl none (.pair (.str) (.str)) v3, .sl none (.pair (.int .i64) (.pair (.int .i64) (.pair (.int .i64) (.pair (.str) (.sl (.pair (.str) (.str))))))) v4], [.int .i64 v5, .int .i64 v6, .sl none (.pair (.int .i64) (.pair (.int .i64) (.pair (.int .i64) (.pair (.int .i64) (.int .i64))))) v7], [.int .i64 v8, .int .i64 v9, .sl none (.pair (.int .i64) (.pair (.int .i64) (.pair (.int .i64) (.pair (.int .i64) (.int .i64))))) v10], [.str v11, .sl none (.pair (.int .i64) (.str)) v12], [.str v13, .nilsl], [.int .i64 v14, .int .i64 v15], [.int .i64 v16, .int .i64 v17], [.str v18, .nilsl]], []⟩
noncomputable def xlate_Translate.l1 (n : Nat) (v0 : List ((Int × (Int × (Int × (ByteArray × List ((ByteArray × ByteArray)))))))) (v1 : Int) (v2 : Int) (v3 : List ((ByteArray × ByteArray))) (v4 : List ((Int × (Int × (Int × (ByteArray × List ((ByteArray × ByteArray)))))))) (v5 : Int) (v6 : Int) (v7 : List ((Int × (Int × (Int × (Int × Int)))))) (v8 : Int) (v9 : Int) (v10 : List ((Int × (Int × (Int × (Int × Int)))))) (v11 : ByteArray) (v12 : List ((Int × ByteArray))) (v13 : ByteArray) (v14 : Int) (v15 : Int) (v16 : Int) (v17 : Int) (v18 : ByteArray) (v19 : List ((Int × ByteArray))) : Option (((ByteArray × List ((Int × ByteArray))) × (Int × Int))) := run xlate_Translate.C (finOf xlate_Translate.C Tryz.f25 xlate_Translate.rs) n (todoAt 12 xlate_Translate.code) ⟨[.junk, .junk, .junk, .junk, .ptr 0 0, .junk, .ptr 2 0, .ptr 3 0, .ptr 4 0, .ptr 5 0, .junk, .junk, .junk, .junk, .junk, .junk, .ptr 7 0, .junk, .junk, .junk, .junk, .junk, .junk, .junk, .junk, .junk, .junk, .junk, .junk, .junk, .junk, .junk, .junk, .junk, .junk, .junk, .junk, .junk, .junk, .junk, .junk, .junk, .junk, .junk, .junk, .junk, .junk, .junk, .junk, .junk, .junk, .junk, .junk, .junk, .junk, .junk, .junk, .junk, .junk, .sl none (.pair (.int .i64) (.pair (.int .i64) (.pair (.int .i64) (.pair (.str) (.sl (.pair (.str) (.str))))))) v0, .int .i64 v1, .int .i64 v2, .junk, .junk, .junk, .junk, .junk, .junk, .junk, .junk, .junk, .junk, .junk, .junk, .junk, .junk, .junk, .junk, .junk, .junk, .junk, .junk, .junk, .junk, .junk, .junk, .junk, .junk, .junk, .junk, .junk, .junk, .junk, .junk, .junk, .junk, .junk, .junk, .junk, .junk, .junk, .junk, .junk, .junk, .junk, .junk, .junk, .junk, .junk, .junk, .junk, .junk, .junk, .junk, .junk, .junk, .junk, .junk, .junk, .junk, .junk, .junk], [[.sl none (.pair (.str) (.str)) v3, .sl none (.pair (.int .i64) (.pair (.int .i64) (.pair (.int .i64) (.pair (.str) (.sl (.pair (.str) (.str))))))) v4], [.int .i64 v5, .int .i64 v6, .sl none (.pair (.int .i64) (.pair (.int .i64) (.pair (.int .i64) (.pair (.int .i64) (.int .i64))))) v7], [.int .i64 v8, .int .i64 v9, .sl none (.pair (.int .i64) (.pair (.int .i64) (.pair (.int .i64) (.pair (.int .i64) (.int .i64))))) v10], [.str v11, .sl none (.pair (.int .i64) (.str)) v12], [.str v13, .nilsl], [.int .i64 v14, .int .i64 v15], [.int .i64 v16, .int .i64 v17], [.str v18, .sl none (.pair (.int .i64) (.str)) v19]], []⟩
noncomputable def xlate_Translate.l2 (n : Nat) (v0 : List ((Int × ByteArray))) (v1 : Int) (v2 : Int) (v3 : List ((ByteArray × ByteArray))) (v4 : List ((Int × (Int × (Int × (ByteArray × List ((ByteArray × ByteArray)))))))) (v5 : Int) (v6 : Int) (v7 : List ((Int × (Int × (Int × (Int × Int)))))) (v8 : Int) (v9 : Int) (v10 : List ((Int × (Int × (Int × (Int × Int)))))) (v11 : ByteArray) (v12 : List ((Int × ByteArray))) (v13 : ByteArray) (v14 : Int) (v15 : Int) (v16 : Int) (v17 : Int) (v18 : ByteArray) : Option (((ByteArray × List ((Int × ByteArray))) × (Int × Int))) := run xlate_Translate.C (finOf xlate_Translate.C Tryz.f25 xlate_Translate.rs) n (todoAt 18 xlate_Translate.code) ⟨[.junk, .junk, .junk, .junk, .ptr 0 0, .junk, .ptr 2 0, .junk, .ptr 4 0, .ptr 5 0, .junk, .junk, .junk, .junk, .junk, .junk, .ptr 7 0, .junk, .junk, .junk, .junk, .junk, .junk, .junk, .junk, .junk, .junk, .junk, .junk, .junk, .junk, .junk, .junk, .junk, .junk, .junk, .junk, .junk, .junk, .junk, .junk, .junk, .junk, .junk, .junk, .junk, .junk, .junk, .junk, .junk, .junk, .junk, .junk, .junk, .junk, .junk, .junk, .junk, .junk, .junk, .junk, .junk, .junk, .junk, .junk, .junk, .junk, .junk, .junk, .junk, .junk, .junk, .junk, .junk, .junk, .junk, .sl none (.pair (.int .i64) (.str)) v0, .int .i64 v1, .int .i64 v2, .junk, .junk, .junk, .junk, .junk, .junk, .junk, .junk, .junk, .junk, .junk, .junk, .junk, .junk, .junk, .junk, .junk, .junk, .junk, .junk, .junk, .junk, .junk, .junk, .junk, .junk, .junk, .junk, .junk, .junk, .junk, .junk, .junk, .junk, .junk, .junk, .junk, .junk, .junk, .junk, .junk, .junk, .junk], [[.sl none (.pair (.str) (.str)) v3, .sl none (.pair (.int .i64) (.pair (.int .i64) (.pair (.int .i64) (.pair (.str) (.sl (.pair (.str) (.str))))))) v4], [.int .i64 v5, .int .i64 v6, .sl none (.pair (.int .i64) (.pair (.int .i64) (.pair (.int .i64) (.pair (.int .i64) (.int .i64))))) v7], [.int .i64 v8, .int .i64 v9, .sl none (.pair (.int .i64) (.pair (.int .i64) (.pair (.int .i64) (.pair (.int .i64) (.int .i64))))) v10], [.str v11, .sl none (.pair (.int .i64) (.str)) v12], [.str v13, .nilsl], [.int .i64 v14, .int .i64 v15], [.int .i64 v16, .int .i64 v17], [.str v18, .nilsl]], []⟩
noncomputable def xlate_Translate.l3 (n : Nat) (v0 : List ((Int × ByteArray))) (v1 : Int) (v2 : Int) (v3 : List ((ByteArray × ByteArray))) (v4 : List ((Int × (Int × (Int × (ByteArray × List ((ByteArray × ByteArray)))))))) (v5 : Int) (v6 : Int) (v7 : List ((Int × (Int × (Int × (Int × Int)))))) (v8 : Int) (v9 : Int) (v10 : List ((Int × (Int × (Int × (Int × Int)))))) (v11 : ByteArray) (v12 : List ((Int × ByteArray))) (v13 : ByteArray) (v14 : Int) (v15 : Int) (v16 : Int) (v17 : Int) (v18 : ByteArray) (v19 : List ((Int × ByteArray))) : Option (((ByteArray × List ((Int × ByteArray))) × (Int × Int))) := run xlate_Translate.C (finOf xlate_Translate.C Tryz.f25 xlate_Translate.rs) n (todoAt 18 xlate_Translate.code) ⟨[.junk, .junk, .junk, .junk, .ptr 0 0, .junk, .ptr 2 0, .junk, .ptr 4 0, .ptr 5 0, .junk, .junk, .junk, .junk, .junk, .junk, .ptr 7 0, .junk, .junk, .junk, .junk, .junk, .junk, .junk, .junk, .junk, .junk, .junk, .junk, .junk, .junk, .junk, .junk, .junk, .junk, .junk, .junk, .junk, .junk, .junk, .junk, .junk, .junk, .junk, .junk, .junk, .junk, .junk, .junk, .junk, .junk, .junk, .junk, .junk, .junk, .junk, .junk, .junk, .junk, .junk, .junk, .junk, .junk, .junk, .junk, .junk, .junk, .junk, .junk, .junk, .junk, .junk, .junk, .junk, .junk, .junk, .sl none (.pair (.int .i64) (.str)) v0, .int .i64 v1, .int .i64 v2, .junk, .junk, .junk, .junk, .junk, .junk, .junk, .junk, .junk, .junk, .junk, .junk, .junk, .junk, .junk, .junk, .junk, .junk, .junk, .junk, .junk, .junk, .junk, .junk, .junk, .junk, .junk, .junk, .junk, .junk, .junk, .junk, .junk, .junk, .junk, .junk, .junk, .junk, .junk, .junk, .junk, .junk, .junk], [[.sl none (.pair (.str) (.str)) v3, .sl none (.pair (.int .i64) (.pair (.int .i64) (.pair (.int .i64) (.pair (.str) (.sl (.pair (.str) (.str))))))) v4], [.int .i64 v5, .int .i64 v6, .sl none (.pair (.int .i64) (.pair (.int .i64) (.pair (.int .i64) (.pair (.int .i64) (.int .i64))))) v7], [.int .i64 v8, .int .i64 v9, .sl none (.pair (.int .i64) (.pair (.int .i64) (.pair (.int .i64) (.pair (.int .i64) (.int .i64))))) v10], [.str v11, .sl none (.pair (.int .i64) (.str)) v12], [.str v13, .nilsl], [.int .i64 v14, .int .i64 v15], [.int .i64 v16, .int .i64 v17], [.str v18, .sl none (.pair (.int .i64) (.str)) v19]], []⟩
-- the loop at region 12
theorem xlate_Translate.l0_eq (n : Nat) (v0 : List ((Int × (Int × (Int × (ByteArray × List ((ByteArray × ByteArray)))))))) (v1 : Int) (v2 : Int) (v3 : List ((ByteArray × ByteArray))) (v4 : List ((Int × (Int × (Int × (ByteArray × List ((ByteArray × ByteArray)))))))) (v5 : Int) (v6 : Int) (v7 : List ((Int × (Int × (Int × (Int × Int)))))) (v8 : Int) (v9 : Int) (v10 : List ((Int × (Int × (Int × (Int × Int)))))) (v11 : ByteArray) (v12 : List ((Int × ByteArray))) (v13 : ByteArray) (v14 : Int) (v15 : Int) (v16 : Int) (v17 : Int) (v18 : ByteArray) : xlate_Translate.l0 (n + 1) v0 v1 v2 v3 v4 v5 v6 v7 v8 v9 v10 v11 v12 v13 v14 v15 v16 v17 v18 =
  (if v2 < v1 then ((lget v0 v2).bind fun b3 =>
   (if Prod.fst b3 = 3 then ((msg_With.f ((v18, []), Prod.fst (Prod.snd (Prod.snd b3)), Prod.fst (Prod.snd (Prod.snd (Prod.snd b3))))).bind fun b4 =>
    (xlate_Translate.l1 n v0 v1 (IntKind.wrap IntKind.i64 (v2 + 1)) v3 v4 v5 v6 v7 v8 v9 v10 v11 v12 v13 v14 v15 v16 v17 (Prod.fst b4) (Prod.snd b4)))
   else (xlate_Translate.l0 n v0 v1 (IntKind.wrap IntKind.i64 (v2 + 1)) v3 v4 v5 v6 v7 v8 v9 v10 v11 v12 v13 v14 v15 v16 v17 v18)))
  else (xlate_Translate.l2 n v12 ((↑(List.length v12) : Int)) 0 v3 v4 v5 v6 v7 v8 v9 v10 v11 v12 v13 v14 v15 v16 v17 v18)) := by kernel_rfl
-- the loop at region 12
theorem xlate_Translate.l1_eq (n : Nat) (v0 : List ((Int × (Int × (Int × (ByteArray × List ((ByteArray × ByteArray)))))))) (v1 : Int) (v2 : Int) (v3 : List ((ByteArray × ByteArray))) (v4 : List ((Int × (Int × (Int × (ByteArray × List ((ByteArray × ByteArray)))))))) (v5 : Int) (v6 : Int) (v7 : List ((Int × (Int × (Int × (Int × Int)))))) (v8 : Int) (v9 : Int) (v10 : List ((Int × (Int × (Int × (Int × Int)))))) (v11 : ByteArray) (v12 : List ((Int × ByteArray))) (v13 : ByteArray) (v14 : Int) (v15 : Int) (v16 : Int) (v17 : Int) (v18 : ByteArray) (v19 : List ((Int × ByteArray))) : xlate_Translate.l1 (n + 1) v0 v1 v2 v3 v4 v5 v6 v7 v8 v9 v10 v11 v12 v13 v14 v15 v16 v17 v18 v19 =
  (if v2 < v1 then ((lget v0 v2).bind fun b5 =>
   (if Prod.fst b5 = 3 then ((msg_With.f ((v18, v19), Prod.fst (Prod.snd (Prod.snd b5)), Prod.fst (Prod.snd (Prod.snd (Prod.snd b5))))).bind fun b6 =>
    (xlate_Translate.l1 n v0 v1 (IntKind.wrap IntKind.i64 (v2 + 1)) v3 v4 v5 v6 v7 v8 v9 v10 v11 v12 v13 v14 v15 v16 v17 (Prod.fst b6) (Prod.snd b6)))
   else (xlate_Translate.l1 n v0 v1 (IntKind.wrap IntKind.i64 (v2 + 1)) v3 v4 v5 v6 v7 v8 v9 v10 v11 v12 v13 v14 v15 v16 v17 v18 v19)))
  else (xlate_Translate.l3 n v12 ((↑(List.length v12) : Int)) 0 v3 v4 v5 v6 v7 v8 v9 v10 v11 v12 v13 v14 v15 v16 v17 v18 v19)) := by kernel_rfl
-- the loop at region 18
theorem xlate_Translate.l2_eq (n : Nat) (v0 : List ((Int × ByteArray))) (v1 : Int) (v2 : Int) (v3 : List ((ByteArray × ByteArray))) (v4 : List ((Int × (Int × (Int × (ByteArray × List ((ByteArray × ByteArray)))))))) (v5 : Int) (v6 : Int) (v7 : List ((Int × (Int × (Int × (Int × Int)))))) (v8 : Int) (v9 : Int) (v10 : List ((Int × (Int × (Int × (Int × Int)))))) (v11 : ByteArray) (v12 : List ((Int × ByteArray))) (v13 : ByteArray) (v14 : Int) (v15 : Int) (v16 : Int) (v17 : Int) (v18 : ByteArray) : xlate_Translate.l2 (n + 1) v0 v1 v2 v3 v4 v5 v6 v7 v8 v9 v10 v11 v12 v13 v14 v15 v16 v17 v18 =
  (if v2 < v1 then ((lget v0 v2).bind fun b7 =>
   ((xlate_find.f ((v3, v4), Prod.fst b7)).bind fun b8 =>
   (if ¬Prod.snd b8 = true then (some (((ByteArray.mk #[], []), 9, Prod.fst b7)))
   else ((rule_Apply.f (Prod.fst b8, (v8, v9, v10), Prod.snd b7)).bind fun b9 =>
    (if ¬Prod.snd b9 = 0 then (some (((ByteArray.mk #[], []), Prod.snd b9, Prod.fst b7)))
    else (if ¬Prod.fst (Prod.fst b9) = 0 then ((msg_With.f ((v18, []), Prod.fst b9)).bind fun b10 =>
      (xlate_Translate.l3 n v0 v1 (IntKind.wrap IntKind.i64 (v2 + 1)) v3 v4 v5 v6 v7 v8 v9 v10 v11 v12 v13 v14 v15 v16 v17 (Prod.fst b10) (Prod.snd b10)))
     else (xlate_Translate.l2 n v0 v1 (IntKind.wrap IntKind.i64 (v2 + 1)) v3 v4 v5 v6 v7 v8 v9 v10 v11 v12 v13 v14 v15 v16 v17 v18)))))))
  else (some (((v18, []), 0, 0)))) := by kernel_rfl
-- the loop at region 18
theorem xlate_Translate.l3_eq (n : Nat) (v0 : List ((Int × ByteArray))) (v1 : Int) (v2 : Int) (v3 : List ((ByteArray × ByteArray))) (v4 : List ((Int × (Int × (Int × (ByteArray × List ((ByteArray × ByteArray)))))))) (v5 : Int) (v6 : Int) (v7 : List ((Int × (Int × (Int × (Int × Int)))))) (v8 : Int) (v9 : Int) (v10 : List ((Int × (Int × (Int × (Int × Int)))))) (v11 : ByteArray) (v12 : List ((Int × ByteArray))) (v13 : ByteArray) (v14 : Int) (v15 : Int) (v16 : Int) (v17 : Int) (v18 : ByteArray) (v19 : List ((Int × ByteArray))) : xlate_Translate.l3 (n + 1) v0 v1 v2 v3 v4 v5 v6 v7 v8 v9 v10 v11 v12 v13 v14 v15 v16 v17 v18 v19 =
  (if v2 < v1 then ((lget v0 v2).bind fun b11 =>
   ((xlate_find.f ((v3, v4), Prod.fst b11)).bind fun b12 =>
   (if ¬Prod.snd b12 = true then (some (((ByteArray.mk #[], []), 9, Prod.fst b11)))
   else ((rule_Apply.f (Prod.fst b12, (v8, v9, v10), Prod.snd b11)).bind fun b13 =>
    (if ¬Prod.snd b13 = 0 then (some (((ByteArray.mk #[], []), Prod.snd b13, Prod.fst b11)))
    else (if ¬Prod.fst (Prod.fst b13) = 0 then ((msg_With.f ((v18, v19), Prod.fst b13)).bind fun b14 =>
      (xlate_Translate.l3 n v0 v1 (IntKind.wrap IntKind.i64 (v2 + 1)) v3 v4 v5 v6 v7 v8 v9 v10 v11 v12 v13 v14 v15 v16 v17 (Prod.fst b14) (Prod.snd b14)))
     else (xlate_Translate.l3 n v0 v1 (IntKind.wrap IntKind.i64 (v2 + 1)) v3 v4 v5 v6 v7 v8 v9 v10 v11 v12 v13 v14 v15 v16 v17 v18 v19)))))))
  else (some (((v18, v19), 0, 0)))) := by kernel_rfl
theorem xlate_Translate.eq (n : Nat) (a0 : List ((ByteArray × ByteArray))) (a1 : List ((Int × (Int × (Int × (ByteArray × List ((ByteArray × ByteArray)))))))) (a2 : Int) (a3 : Int) (a4 : List ((Int × (Int × (Int × (Int × Int)))))) (a5 : Int) (a6 : Int) (a7 : List ((Int × (Int × (Int × (Int × Int)))))) (a8 : ByteArray) (a9 : List ((Int × ByteArray))) : call xlate_Translate.C Tryz.f25 xlate_Translate.code xlate_Translate.sg xlate_Translate.rs n ((a0, a1), ((a2, (a3, a4)), ((a5, (a6, a7)), (a8, a9)))) =
  ((xlate_Check.f ((a0, a1), (a2, a3, a4), a5, a6, a7)).bind fun b0 =>
  (if ¬Prod.fst b0 = 0 then (some (((ByteArray.mk #[], []), 1, -1)))
  else ((msg_Check.f ((a2, a3, a4), a8, a9)).bind fun b1 =>
   (if ¬Prod.fst b1 = 0 then (some (((ByteArray.mk #[], []), b1)))
   else ((xlate_head.f ((a0, a1), a8)).bind fun b2 =>
    (if ¬Prod.snd b2 = true then (some (((ByteArray.mk #[], []), 7, 0)))
    else (xlate_Translate.l0 n a1 ((↑(List.length a1) : Int)) 0 a0 a1 a2 a3 a4 a5 a6 a7 a8 a9 (ByteArray.mk #[]) 0 0 (Prod.fst b1) (Prod.snd b1) (Prod.fst b2)))))))) := by kernel_rfl
abbrev M2 := ByteArray × List V
/-- What the fields become. -/
noncomputable def trL (l : List RU) (b : SC) (t : ByteArray) : List V → List V → Option (M2 × Int × Int)
  | [], o => some ((t, o), 0, 0)
  | v :: m, o => if (ruleOf v.1 l).2 = false then some ((ByteArray.mk #[], []), 9, v.1) else (rule_Apply.f ((ruleOf v.1 l).1, b, v.2)).bind fun y => if ¬ y.2 = 0 then some ((ByteArray.mk #[], []), y.2, v.1) else if ¬ y.1.1 = 0 then trL l b t m (withV y.1.1 y.1.2 o) else trL l b t m o
def constL : List RU → List V → List V
  | [], o => o
  | r :: l, o => if r.1 = 3 then constL l (withV r.2.2.1 r.2.2.2.1 o) else constL l o
noncomputable def trM (m : RC) (a b : SC) (x : M2) : Option (M2 × Int × Int) :=
  if ¬ (mapE m a b).1 = 0 then some ((ByteArray.mk #[], []), 1, -1)
  else if ¬ (msgE a (bl x.1) x.2).1 = 0 then some ((ByteArray.mk #[], []), msgE a (bl x.1) x.2)
  else if (applyP x.1 m.1).2 = false then some ((ByteArray.mk #[], []), 7, 0)
  else trL m.2 b (applyP x.1 m.1).1 x.2 (constL m.2 [])
noncomputable def xlate_Translate.f (x : RC × SC × SC × M2) : Option (M2 × Int × Int) := if okC x.1 ∧ x.2.1.2.2.length ≤ 1000000 ∧ x.2.2.1.2.2.length ≤ 1000000 ∧ okM x.2.2.2.2 then trM x.1 x.2.1 x.2.2.1 x.2.2.2 else none
theorem xlate_Translate (m : RC) (hm : okC m) (a b : SC) (ha : a.2.2.length ≤ 1000000) (hb : b.2.2.length ≤ 1000000) (x : M2) (hx : okM x.2) : xlate_Translate.f (m, a, b, x) = trM m a b x := if_pos ⟨hm, ha, hb, hx⟩
section
variable (p : List PB) (l : List RU) (hm : okC (p, l)) (a1 a2 : Int) (a : List S5) (b1 b2 : Int) (b : List S5) (s : ByteArray) (g : List V) (hg : g.length ≤ 1000000) (q1 : ByteArray) (q2 q3 q4 q5 : Int) (t : ByteArray)
include hm hg
theorem xlate_Translate_l3 : ∀ (m o : List V) (k i : Nat), g.drop i = m → o.length ≤ 1000000 + i → m.length < k → ∀ y, trL l (b1, b2, b) t m o = some y →
    xlate_Translate.l3 k g (g.length : Int) (i : Int) p l a1 a2 a b1 b2 b s g q1 q2 q3 q4 q5 t o = some y
  | [], o, k, i, hd, ho, hk, y, hy => by
    obtain ⟨k, rfl⟩ : ∃ m, k = m + 1 := ⟨k - 1, by omega⟩
    have := dropn hd
    rw [xlate_Translate.l3_eq, if_neg (by omega), ← hy]; rfl
  | v :: m, o, k, i, hd, ho, hk, y, hy => by
    obtain ⟨k, rfl⟩ : ∃ m, k = m + 1 := ⟨k - 1, by omega⟩
    obtain ⟨h1, h2, h3, h4⟩ := dropc hd
    have hk' : m.length < k := by simp at hk; omega
    rw [xlate_Translate.l3_eq, if_pos (by omega), h4, Option.bind_some, xlate_find (p, l) hm, Option.bind_some]
    rw [trL] at hy
    dsimp only
    cases c1 : (ruleOf v.1 l).2
    · rw [c1, if_pos rfl] at hy
      rw [if_pos (by simp)]; exact hy
    rw [c1, if_neg (by simp)] at hy
    rw [if_neg (by simp)]
    obtain ⟨z, e1, e2⟩ := Option.bind_eq_some_iff.1 hy
    rw [e1, Option.bind_some]
    by_cases c2 : ¬ z.2 = 0
    · rw [if_pos c2] at e2 ⊢; exact e2
    rw [if_neg c2] at e2 ⊢
    by_cases c3 : ¬ z.1.1 = 0
    · rw [if_pos c3] at e2 ⊢
      rw [msg_With t o (by omega), Option.bind_some, wrap_succ (by omega)]
      exact xlate_Translate_l3 m (withV z.1.1 z.1.2 o) k (i + 1) h2 (by have := withV_length' z.1.1 z.1.2 o; omega) hk' y e2
    · rw [if_neg c3] at e2 ⊢
      rw [wrap_succ (by omega)]
      exact xlate_Translate_l3 m _ k (i + 1) h2 (by omega) hk' y e2
theorem xlate_Translate_l2 : ∀ (m : List V) (k i : Nat), g.drop i = m → m.length < k → ∀ y, trL l (b1, b2, b) t m [] = some y →
    xlate_Translate.l2 k g (g.length : Int) (i : Int) p l a1 a2 a b1 b2 b s g q1 q2 q3 q4 q5 t = some y
  | [], k, i, hd, hk, y, hy => by
    obtain ⟨k, rfl⟩ : ∃ m, k = m + 1 := ⟨k - 1, by omega⟩
    have := dropn hd
    rw [xlate_Translate.l2_eq, if_neg (by omega), ← hy]; rfl
  | v :: m, k, i, hd, hk, y, hy => by
    obtain ⟨k, rfl⟩ : ∃ m, k = m + 1 := ⟨k - 1, by omega⟩
    obtain ⟨h1, h2, h3, h4⟩ := dropc hd
    have hk' : m.length < k := by simp at hk; omega
    rw [xlate_Translate.l2_eq, if_pos (by omega), h4, Option.bind_some, xlate_find (p, l) hm, Option.bind_some]
    rw [trL] at hy
    dsimp only
    cases c1 : (ruleOf v.1 l).2
    · rw [c1, if_pos rfl] at hy
      rw [if_pos (by simp)]; exact hy
    rw [c1, if_neg (by simp)] at hy
    rw [if_neg (by simp)]
    obtain ⟨z, e1, e2⟩ := Option.bind_eq_some_iff.1 hy
    rw [e1, Option.bind_some]
    by_cases c2 : ¬ z.2 = 0
    · rw [if_pos c2] at e2 ⊢; exact e2
    rw [if_neg c2] at e2 ⊢
    by_cases c3 : ¬ z.1.1 = 0
    · rw [if_pos c3] at e2 ⊢
      rw [msg_With t [] (by simp), Option.bind_some, wrap_succ (by omega)]
      exact xlate_Translate_l3 p l hm a1 a2 a b1 b2 b s g hg q1 q2 q3 q4 q5 t m (withV z.1.1 z.1.2 []) k (i + 1) h2 (by have := withV_length' z.1.1 z.1.2 []; simp at this; omega) hk' y e2
    · rw [if_neg c3] at e2 ⊢
      rw [wrap_succ (by omega)]
      exact xlate_Translate_l2 m k (i + 1) h2 hk' y e2
theorem xlate_Translate_l1 : ∀ (m : List RU) (o : List V) (k i : Nat), l.drop i = m → i ≤ l.length → o.length ≤ i → m.length + g.length + 1 < k → ∀ y, trL l (b1, b2, b) t g (constL m o) = some y →
    xlate_Translate.l1 k l (l.length : Int) (i : Int) p l a1 a2 a b1 b2 b s g q1 q2 q3 q4 q5 t o = some y
  | [], o, k, i, hd, hi, ho, hk, y, hy => by
    obtain ⟨k, rfl⟩ : ∃ m, k = m + 1 := ⟨k - 1, by omega⟩
    have := dropn hd
    rw [xlate_Translate.l1_eq, if_neg (by omega)]
    have hl : l.length ≤ 100000 := hm.2.1
    exact xlate_Translate_l3 p l hm a1 a2 a b1 b2 b s g hg q1 q2 q3 q4 q5 t g o k 0 rfl (by omega) (by simp at hk; omega) y hy
  | r :: m, o, k, i, hd, hi, ho, hk, y, hy => by
    obtain ⟨k, rfl⟩ : ∃ m, k = m + 1 := ⟨k - 1, by omega⟩
    obtain ⟨h1, h2, h3, h4⟩ := dropc hd
    have hk' : m.length + g.length + 1 < k := by simp at hk; omega
    have hl : l.length ≤ 100000 := hm.2.1
    rw [xlate_Translate.l1_eq, if_pos (by omega), h4, Option.bind_some]
    rw [constL] at hy
    by_cases c : r.1 = 3
    · rw [if_pos c] at hy ⊢
      rw [msg_With t o (by omega), Option.bind_some, wrap_succ (by omega)]
      exact xlate_Translate_l1 m (withV r.2.2.1 r.2.2.2.1 o) k (i + 1) h2 (by omega) (by have := withV_length' r.2.2.1 r.2.2.2.1 o; omega) hk' y hy
    · rw [if_neg c] at hy ⊢
      rw [wrap_succ (by omega)]
      exact xlate_Translate_l1 m _ k (i + 1) h2 (by omega) (by omega) hk' y hy
theorem xlate_Translate_l0 : ∀ (m : List RU) (k i : Nat), l.drop i = m → i ≤ l.length → m.length + g.length + 1 < k → ∀ y, trL l (b1, b2, b) t g (constL m []) = some y →
    xlate_Translate.l0 k l (l.length : Int) (i : Int) p l a1 a2 a b1 b2 b s g q1 q2 q3 q4 q5 t = some y
  | [], k, i, hd, hi, hk, y, hy => by
    obtain ⟨k, rfl⟩ : ∃ m, k = m + 1 := ⟨k - 1, by omega⟩
    have := dropn hd
    rw [xlate_Translate.l0_eq, if_neg (by omega)]
    exact xlate_Translate_l2 p l hm a1 a2 a b1 b2 b s g hg q1 q2 q3 q4 q5 t g k 0 rfl (by simp at hk; omega) y hy
  | r :: m, k, i, hd, hi, hk, y, hy => by
    obtain ⟨k, rfl⟩ : ∃ m, k = m + 1 := ⟨k - 1, by omega⟩
    obtain ⟨h1, h2, h3, h4⟩ := dropc hd
    have hk' : m.length + g.length + 1 < k := by simp at hk; omega
    have hl : l.length ≤ 100000 := hm.2.1
    rw [xlate_Translate.l0_eq, if_pos (by omega), h4, Option.bind_some]
    rw [constL] at hy
    by_cases c : r.1 = 3
    · rw [if_pos c] at hy ⊢
      rw [msg_With t [] (by simp), Option.bind_some, wrap_succ (by omega)]
      exact xlate_Translate_l1 p l hm a1 a2 a b1 b2 b s g hg q1 q2 q3 q4 q5 t m (withV r.2.2.1 r.2.2.2.1 []) k (i + 1) h2 (by omega) (by have := withV_length' r.2.2.1 r.2.2.2.1 []; simp at this; omega) hk' y hy
    · rw [if_neg c] at hy ⊢
      rw [wrap_succ (by omega)]
      exact xlate_Translate_l0 m k (i + 1) h2 (by omega) hk' y hy
end
noncomputable def xlate_Translate.c : Con := ⟨25, xlate_Translate.sg, xlate_Translate.rs, xlate_Translate.f⟩
theorem xlate_Translate.con : ConOk Tryz.prog xlate_Translate.c := walked (C := xlate_Translate.C) rfl (by kernel_rfl) (by kernel_rfl) (by kernel_rfl) rfl ⟨msg_Check.con, xlate_Check.con, xlate_head.con, msg_With.con, xlate_find.con, rule_Apply.con, trivial⟩ fun ⟨⟨p, l⟩, ⟨a1, a2, a⟩, ⟨b1, b2, b⟩, s, g⟩ y h => by
  have h : xlate_Translate.f ((p, l), (a1, a2, a), (b1, b2, b), s, g) = some y := h
  unfold xlate_Translate.f at h
  split at h
  · rename_i hc
    obtain ⟨hm, ha, hb, hx⟩ := hc
    obtain ⟨s, rfl⟩ := ex_sb s
    refine ⟨l.length + g.length + 2, ?_⟩
    unfold trM at h
    rw [bl_sb] at h
    rw [xlate_Translate.eq, xlate_Check (p, l) hm _ _ ha hb, Option.bind_some]
    by_cases c1 : ¬ (mapE (p, l) (a1, a2, a) (b1, b2, b)).1 = 0
    · rw [if_pos c1] at h ⊢; exact h
    rw [if_neg c1] at h ⊢
    rw [msg_Check a1 a2 a s g ha hx, Option.bind_some]
    by_cases c2 : ¬ (msgE (a1, a2, a) s g).1 = 0
    · rw [if_pos c2] at h ⊢; exact h
    rw [if_neg c2] at h ⊢
    rw [xlate_head (p, l) hm, Option.bind_some]
    dsimp only at h ⊢
    cases c3 : (applyP (sb s) p).2
    · rw [c3, if_pos rfl] at h
      rw [if_pos (by simp)]; exact h
    rw [c3, if_neg (by simp)] at h
    rw [if_neg (by simp)]
    exact xlate_Translate_l0 p l hm a1 a2 a b1 b2 b (sb s) g hx.1 _ 0 0 _ _ _ l _ 0 rfl (by omega) (by omega) y h
  · cases h
end Go.Proofs.YtkaihbkfobiejaaGreatDoor.Xe
