/- Routing, and answers that the document fixes. -/
import Derived.Test.YtkaihbkfobiejaaGreatDoorExn
import Derived.Test.YtkaihbkfobiejaaGreatDoorEwe
import Derived.Test.YtkaihbkfobiejaaGreatDoorEst
namespace Go.Proofs.YtkaihbkfobiejaaGreatDoor.Xe
open Go Go.RowKit Go.Proofs.YtkaihbkfobiejaaGreatDoor.Sp
set_option linter.unusedVariables false
set_option linter.unusedSimpArgs false
set_option maxRecDepth 100000
/-! ### route_Check -/
@[reducible] def route_Check.sg : List Shp := [.a (.pair (.pair (.pair (.pair (.int .i64) (.pair (.int .i64) (.sl (.pair (.int .i64) (.pair (.int .i64) (.pair (.int .i64) (.pair (.int .i64) (.int .i64)))))))) (.pair (.pair (.sl (.pair (.str) (.str))) (.sl (.pair (.int .i64) (.pair (.int .i64) (.pair (.int .i64) (.pair (.str) (.sl (.pair (.str) (.str))))))))) (.pair (.sl (.int .i64)) (.sl (.pair (.int .i64) (.str)))))) (.pair (.pair (.int .i64) (.pair (.int .i64) (.sl (.pair (.int .i64) (.pair (.int .i64) (.pair (.int .i64) (.pair (.int .i64) (.int .i64)))))))) (.pair (.pair (.sl (.pair (.str) (.str))) (.sl (.pair (.int .i64) (.pair (.int .i64) (.pair (.int .i64) (.pair (.str) (.sl (.pair (.str) (.str))))))))) (.pair (.sl (.int .i64)) (.sl (.pair (.int .i64) (.str))))))) (.int .i64))]
@[reducible] def route_Check.rs : Rs := .tup [.v (.int .i64), .v (.int .i64), .v (.int .i64)]
@[reducible] noncomputable def route_Check.code : Code := Tryz.f69.body.getD .skip
noncomputable def route_Check.C : Ctx := ⟨tab, [xlate_Check.c, reject_Check.c], [], ⟨[(4, [1, 22, 23], 1)], []⟩⟩
noncomputable def route_Check.l0 (n : Nat) (v0 : Int) (v1 : Int) (v2 : List ((Int × (Int × (Int × (Int × Int)))))) (v3 : List ((ByteArray × ByteArray))) (v4 : List ((Int × (Int × (Int × (ByteArray × List ((ByteArray × ByteArray)))))))) (v5 : List Int) (v6 : List ((Int × ByteArray))) (v7 : Int) (v8 : Int) (v9 : List ((Int × (Int × (Int × (Int × Int)))))) (v10 : List ((ByteArray × ByteArray))) (v11 : List ((Int × (Int × (Int × (ByteArray × List ((ByteArray × ByteArray)))))))) (v12 : List Int) (v13 : List ((Int × ByteArray))) (v14 : Int) (v15 : Int) (v16 : Int) (v17 : List ((Int × (Int × (Int × (Int × Int)))))) (v18 : List ((ByteArray × ByteArray))) (v19 : List ((Int × (Int × (Int × (ByteArray × List ((ByteArray × ByteArray)))))))) (v20 : List Int) (v21 : List ((Int × ByteArray))) (v22 : Int) (v23 : Int) (v24 : List ((Int × (Int × (Int × (Int × Int)))))) (v25 : List ((ByteArray × ByteArray))) (v26 : List ((Int × (Int × (Int × (ByteArray × List ((ByteArray × ByteArray)))))))) (v27 : List Int) (v28 : List ((Int × ByteArray))) (v29 : Int) : Option ((Int × (Int × Int))) := run route_Check.C (finOf route_Check.C Tryz.f69 route_Check.rs) n (todoAt 4 route_Check.code) ⟨[.junk, .ptr 0 0, .junk, .junk, .junk, .junk, .junk, .junk, .junk, .junk, .junk, .junk, .junk, .junk, .junk, .junk, .junk, .junk, .junk, .junk, .junk, .junk, .agg [.int .i64 v0, .int .i64 v1, .sl none (.pair (.int .i64) (.pair (.int .i64) (.pair (.int .i64) (.pair (.int .i64) (.int .i64))))) v2, .sl none (.pair (.str) (.str)) v3, .sl none (.pair (.int .i64) (.pair (.int .i64) (.pair (.int .i64) (.pair (.str) (.sl (.pair (.str) (.str))))))) v4, .sl none (.int .i64) v5, .sl none (.pair (.int .i64) (.str)) v6, .int .i64 v7, .int .i64 v8, .sl none (.pair (.int .i64) (.pair (.int .i64) (.pair (.int .i64) (.pair (.int .i64) (.int .i64))))) v9, .sl none (.pair (.str) (.str)) v10, .sl none (.pair (.int .i64) (.pair (.int .i64) (.pair (.int .i64) (.pair (.str) (.sl (.pair (.str) (.str))))))) v11, .sl none (.int .i64) v12, .sl none (.pair (.int .i64) (.str)) v13], .int .i64 v14, .junk, .junk, .junk, .junk, .junk, .junk, .junk, .junk, .junk, .junk, .junk, .junk, .junk, .junk, .junk, .junk, .junk, .junk, .junk, .junk, .junk, .junk, .junk, .junk, .junk, .junk, .junk, .junk, .junk, .junk, .junk, .junk, .junk], [[.int .i64 v15, .int .i64 v16, .sl none (.pair (.int .i64) (.pair (.int .i64) (.pair (.int .i64) (.pair (.int .i64) (.int .i64))))) v17, .sl none (.pair (.str) (.str)) v18, .sl none (.pair (.int .i64) (.pair (.int .i64) (.pair (.int .i64) (.pair (.str) (.sl (.pair (.str) (.str))))))) v19, .sl none (.int .i64) v20, .sl none (.pair (.int .i64) (.str)) v21, .int .i64 v22, .int .i64 v23, .sl none (.pair (.int .i64) (.pair (.int .i64) (.pair (.int .i64) (.pair (.int .i64) (.int .i64))))) v24, .sl none (.pair (.str) (.str)) v25, .sl none (.pair (.int .i64) (.pair (.int .i64) (.pair (.int .i64) (.pair (.str) (.sl (.pair (.str) (.str))))))) v26, .sl none (.int .i64) v27, .sl none (.pair (.int .i64) (.str)) v28, .int .i64 v29]], []⟩
-- the loop at region 4
theorem route_Check.l0_eq (n : Nat) (v0 : Int) (v1 : Int) (v2 : List ((Int × (Int × (Int × (Int × Int)))))) (v3 : List ((ByteArray × ByteArray))) (v4 : List ((Int × (Int × (Int × (ByteArray × List ((ByteArray × ByteArray)))))))) (v5 : List Int) (v6 : List ((Int × ByteArray))) (v7 : Int) (v8 : Int) (v9 : List ((Int × (Int × (Int × (Int × Int)))))) (v10 : List ((ByteArray × ByteArray))) (v11 : List ((Int × (Int × (Int × (ByteArray × List ((ByteArray × ByteArray)))))))) (v12 : List Int) (v13 : List ((Int × ByteArray))) (v14 : Int) (v15 : Int) (v16 : Int) (v17 : List ((Int × (Int × (Int × (Int × Int)))))) (v18 : List ((ByteArray × ByteArray))) (v19 : List ((Int × (Int × (Int × (ByteArray × List ((ByteArray × ByteArray)))))))) (v20 : List Int) (v21 : List ((Int × ByteArray))) (v22 : Int) (v23 : Int) (v24 : List ((Int × (Int × (Int × (Int × Int)))))) (v25 : List ((ByteArray × ByteArray))) (v26 : List ((Int × (Int × (Int × (ByteArray × List ((ByteArray × ByteArray)))))))) (v27 : List Int) (v28 : List ((Int × ByteArray))) (v29 : Int) : route_Check.l0 (n + 1) v0 v1 v2 v3 v4 v5 v6 v7 v8 v9 v10 v11 v12 v13 v14 v15 v16 v17 v18 v19 v20 v21 v22 v23 v24 v25 v26 v27 v28 v29 =
  (if v14 < 2 then (if v14 = 0 then ((reject_Check.f ((v0, v1, v2), (v3, v4), v5, v6)).bind fun b0 =>
    (if ¬Prod.fst b0 = 0 then (some ((Prod.fst b0, v14, 1)))
    else (if IntKind.wrap IntKind.i64 (1 - v14) = 0 then ((xlate_Check.f ((v3, v4), (v0, v1, v2), v15, v16, v17)).bind fun b1 =>
      (if ¬Prod.fst b1 = 0 then (some ((Prod.fst b1, v14, 2)))
      else (route_Check.l0 n v0 v1 v2 v3 v4 v5 v6 v7 v8 v9 v10 v11 v12 v13 (IntKind.wrap IntKind.i64 (v14 + 1)) v15 v16 v17 v18 v19 v20 v21 v22 v23 v24 v25 v26 v27 v28 v29)))
     else (if IntKind.wrap IntKind.i64 (1 - v14) = (↑1 : Int) then ((xlate_Check.f ((v3, v4), (v0, v1, v2), v22, v23, v24)).bind fun b2 =>
       (if ¬Prod.fst b2 = 0 then (some ((Prod.fst b2, v14, 2)))
       else (route_Check.l0 n v0 v1 v2 v3 v4 v5 v6 v7 v8 v9 v10 v11 v12 v13 (IntKind.wrap IntKind.i64 (v14 + 1)) v15 v16 v17 v18 v19 v20 v21 v22 v23 v24 v25 v26 v27 v28 v29)))
      else none))))
   else (if v14 = (↑1 : Int) then ((reject_Check.f ((v7, v8, v9), (v10, v11), v12, v13)).bind fun b3 =>
     (if ¬Prod.fst b3 = 0 then (some ((Prod.fst b3, v14, 1)))
     else (if IntKind.wrap IntKind.i64 (1 - v14) = 0 then ((xlate_Check.f ((v10, v11), (v7, v8, v9), v15, v16, v17)).bind fun b4 =>
       (if ¬Prod.fst b4 = 0 then (some ((Prod.fst b4, v14, 2)))
       else (route_Check.l0 n v0 v1 v2 v3 v4 v5 v6 v7 v8 v9 v10 v11 v12 v13 (IntKind.wrap IntKind.i64 (v14 + 1)) v15 v16 v17 v18 v19 v20 v21 v22 v23 v24 v25 v26 v27 v28 v29)))
      else (if IntKind.wrap IntKind.i64 (1 - v14) = (↑1 : Int) then ((xlate_Check.f ((v10, v11), (v7, v8, v9), v22, v23, v24)).bind fun b5 =>
        (if ¬Prod.fst b5 = 0 then (some ((Prod.fst b5, v14, 2)))
        else (route_Check.l0 n v0 v1 v2 v3 v4 v5 v6 v7 v8 v9 v10 v11 v12 v13 (IntKind.wrap IntKind.i64 (v14 + 1)) v15 v16 v17 v18 v19 v20 v21 v22 v23 v24 v25 v26 v27 v28 v29)))
       else none))))
    else none))
  else (some ((0, 0, 0)))) := by kernel_rfl
theorem route_Check.eq (n : Nat) (a0 : Int) (a1 : Int) (a2 : List ((Int × (Int × (Int × (Int × Int)))))) (a3 : List ((ByteArray × ByteArray))) (a4 : List ((Int × (Int × (Int × (ByteArray × List ((ByteArray × ByteArray)))))))) (a5 : List Int) (a6 : List ((Int × ByteArray))) (a7 : Int) (a8 : Int) (a9 : List ((Int × (Int × (Int × (Int × Int)))))) (a10 : List ((ByteArray × ByteArray))) (a11 : List ((Int × (Int × (Int × (ByteArray × List ((ByteArray × ByteArray)))))))) (a12 : List Int) (a13 : List ((Int × ByteArray))) (a14 : Int) : call route_Check.C Tryz.f69 route_Check.code route_Check.sg route_Check.rs n ((((a0, (a1, a2)), ((a3, a4), (a5, a6))), ((a7, (a8, a9)), ((a10, a11), (a12, a13)))), a14) =
  (if a14 < 1 then (some ((5, 2, 0)))
  else (if a14 > 65535 then (some ((5, 2, 0)))
   else (route_Check.l0 n a0 a1 a2 a3 a4 a5 a6 a7 a8 a9 a10 a11 a12 a13 0 a0 a1 a2 a3 a4 a5 a6 a7 a8 a9 a10 a11 a12 a13 a14))) := by kernel_rfl
noncomputable def route_Check.f : El (sgTy route_Check.sg) → Option (El route_Check.rs.ty) := fun x => call route_Check.C Tryz.f69 route_Check.code route_Check.sg route_Check.rs 3 x
noncomputable def route_Check.c : Con := ⟨69, route_Check.sg, route_Check.rs, route_Check.f⟩
theorem route_Check.con : ConOk Tryz.prog route_Check.c := walked (C := route_Check.C) rfl (by kernel_rfl) (by kernel_rfl) (by kernel_rfl) rfl ⟨xlate_Check.con, reject_Check.con, trivial⟩ fun x y h => ⟨3, h⟩
/-! ### route_Outcome_1 -/
@[reducible] def route_Outcome_1.sg : List Shp := [.a (.pair (.str) (.sl (.pair (.int .i64) (.str)))), .a (.pair (.int .i64) (.int .i64)), .p (.pair (.pair (.int .i64) (.pair (.int .i64) (.sl (.pair (.int .i64) (.pair (.int .i64) (.pair (.int .i64) (.pair (.int .i64) (.int .i64)))))))) (.pair (.pair (.sl (.pair (.str) (.str))) (.sl (.pair (.int .i64) (.pair (.int .i64) (.pair (.int .i64) (.pair (.str) (.sl (.pair (.str) (.str))))))))) (.pair (.sl (.int .i64)) (.sl (.pair (.int .i64) (.str)))))), .p (.pair (.pair (.pair (.pair (.int .i64) (.pair (.int .i64) (.sl (.pair (.int .i64) (.pair (.int .i64) (.pair (.int .i64) (.pair (.int .i64) (.int .i64)))))))) (.pair (.pair (.sl (.pair (.str) (.str))) (.sl (.pair (.int .i64) (.pair (.int .i64) (.pair (.int .i64) (.pair (.str) (.sl (.pair (.str) (.str))))))))) (.pair (.sl (.int .i64)) (.sl (.pair (.int .i64) (.str)))))) (.pair (.pair (.int .i64) (.pair (.int .i64) (.sl (.pair (.int .i64) (.pair (.int .i64) (.pair (.int .i64) (.pair (.int .i64) (.int .i64)))))))) (.pair (.pair (.sl (.pair (.str) (.str))) (.sl (.pair (.int .i64) (.pair (.int .i64) (.pair (.int .i64) (.pair (.str) (.sl (.pair (.str) (.str))))))))) (.pair (.sl (.int .i64)) (.sl (.pair (.int .i64) (.str))))))) (.int .i64))]
@[reducible] def route_Outcome_1.rs : Rs := .tup [.v (.int .i64), .v (.str)]
@[reducible] noncomputable def route_Outcome_1.code : Code := Tryz.f76.body.getD .skip
noncomputable def route_Outcome_1.C : Ctx := ⟨tab, [wire_Encode.c, reject_Build.c], [], ⟨[], []⟩⟩
theorem route_Outcome_1.eq (n : Nat) (a0 : ByteArray) (a1 : List ((Int × ByteArray))) (a2 : Int) (a3 : Int) (a4 : Int) (a5 : Int) (a6 : List ((Int × (Int × (Int × (Int × Int)))))) (a7 : List ((ByteArray × ByteArray))) (a8 : List ((Int × (Int × (Int × (ByteArray × List ((ByteArray × ByteArray)))))))) (a9 : List Int) (a10 : List ((Int × ByteArray))) (a11 : Int) (a12 : Int) (a13 : List ((Int × (Int × (Int × (Int × Int)))))) (a14 : List ((ByteArray × ByteArray))) (a15 : List ((Int × (Int × (Int × (ByteArray × List ((ByteArray × ByteArray)))))))) (a16 : List Int) (a17 : List ((Int × ByteArray))) (a18 : Int) (a19 : Int) (a20 : List ((Int × (Int × (Int × (Int × Int)))))) (a21 : List ((ByteArray × ByteArray))) (a22 : List ((Int × (Int × (Int × (ByteArray × List ((ByteArray × ByteArray)))))))) (a23 : List Int) (a24 : List ((Int × ByteArray))) (a25 : Int) : call route_Outcome_1.C Tryz.f76 route_Outcome_1.code route_Outcome_1.sg route_Outcome_1.rs n ((a0, a1), ((a2, a3), (((a4, (a5, a6)), ((a7, a8), (a9, a10))), ((((a11, (a12, a13)), ((a14, a15), (a16, a17))), ((a18, (a19, a20)), ((a21, a22), (a23, a24)))), a25)))) =
  ((reject_Build.f (((a4, a5, a6), (a7, a8), a9, a10), (a0, a1), a2, a3)).bind fun b0 =>
  (if ¬Prod.snd b0 = true then (some ((3, ByteArray.mk #[])))
  else ((wire_Encode.f ((a4, a5, a6), Prod.fst b0)).bind fun b1 =>
   (if Prod.fst b1 = ByteArray.mk #[] then (some ((3, ByteArray.mk #[])))
   else (if (↑(ByteArray.size (Prod.fst b1)) : Int) > a25 then (some ((3, ByteArray.mk #[])))
    else (some ((2, Prod.fst b1)))))))) := by kernel_rfl
noncomputable def route_Outcome_1.f : El (sgTy route_Outcome_1.sg) → Option (El route_Outcome_1.rs.ty) := fun x => match x with
  | ((a0, a1), ((a2, a3), (((a4, (a5, a6)), ((a7, a8), (a9, a10))), ((((a11, (a12, a13)), ((a14, a15), (a16, a17))), ((a18, (a19, a20)), ((a21, a22), (a23, a24)))), a25)))) =>
  ((reject_Build.f (((a4, a5, a6), (a7, a8), a9, a10), (a0, a1), a2, a3)).bind fun b0 =>
  (if ¬Prod.snd b0 = true then (some ((3, ByteArray.mk #[])))
  else ((wire_Encode.f ((a4, a5, a6), Prod.fst b0)).bind fun b1 =>
   (if Prod.fst b1 = ByteArray.mk #[] then (some ((3, ByteArray.mk #[])))
   else (if (↑(ByteArray.size (Prod.fst b1)) : Int) > a25 then (some ((3, ByteArray.mk #[])))
    else (some ((2, Prod.fst b1))))))))
noncomputable def route_Outcome_1.c : Con := ⟨76, route_Outcome_1.sg, route_Outcome_1.rs, route_Outcome_1.f⟩
theorem route_Outcome_1.con : ConOk Tryz.prog route_Outcome_1.c := walked (C := route_Outcome_1.C) rfl (by kernel_rfl) (by kernel_rfl) (by kernel_rfl) rfl ⟨wire_Encode.con, reject_Build.con, trivial⟩ fun ⟨⟨a0, a1⟩, ⟨⟨a2, a3⟩, ⟨⟨⟨a4, ⟨a5, a6⟩⟩, ⟨⟨a7, a8⟩, ⟨a9, a10⟩⟩⟩, ⟨⟨⟨⟨a11, ⟨a12, a13⟩⟩, ⟨⟨a14, a15⟩, ⟨a16, a17⟩⟩⟩, ⟨⟨a18, ⟨a19, a20⟩⟩, ⟨⟨a21, a22⟩, ⟨a23, a24⟩⟩⟩⟩, a25⟩⟩⟩⟩ y h => ⟨0, (route_Outcome_1.eq 0 a0 a1 a2 a3 a4 a5 a6 a7 a8 a9 a10 a11 a12 a13 a14 a15 a16 a17 a18 a19 a20 a21 a22 a23 a24 a25).trans h⟩
/-! ### route_Outcome -/
@[reducible] def route_Outcome.sg : List Shp := [.a (.pair (.pair (.pair (.pair (.int .i64) (.pair (.int .i64) (.sl (.pair (.int .i64) (.pair (.int .i64) (.pair (.int .i64) (.pair (.int .i64) (.int .i64)))))))) (.pair (.pair (.sl (.pair (.str) (.str))) (.sl (.pair (.int .i64) (.pair (.int .i64) (.pair (.int .i64) (.pair (.str) (.sl (.pair (.str) (.str))))))))) (.pair (.sl (.int .i64)) (.sl (.pair (.int .i64) (.str)))))) (.pair (.pair (.int .i64) (.pair (.int .i64) (.sl (.pair (.int .i64) (.pair (.int .i64) (.pair (.int .i64) (.pair (.int .i64) (.int .i64)))))))) (.pair (.pair (.sl (.pair (.str) (.str))) (.sl (.pair (.int .i64) (.pair (.int .i64) (.pair (.int .i64) (.pair (.str) (.sl (.pair (.str) (.str))))))))) (.pair (.sl (.int .i64)) (.sl (.pair (.int .i64) (.str))))))) (.int .i64)), .v (.int .i64), .v (.str)]
@[reducible] def route_Outcome.rs : Rs := .tup [.v (.int .i64), .v (.str)]
@[reducible] noncomputable def route_Outcome.code : Code := Tryz.f35.body.getD .skip
noncomputable def route_Outcome.C : Ctx := ⟨tab, [wire_Encode.c, strict_Decode.c, xlate_Translate.c, route_Check.c, route_Outcome_1.c], [], ⟨[], []⟩⟩
theorem route_Outcome.eq (n : Nat) (a0 : Int) (a1 : Int) (a2 : List ((Int × (Int × (Int × (Int × Int)))))) (a3 : List ((ByteArray × ByteArray))) (a4 : List ((Int × (Int × (Int × (ByteArray × List ((ByteArray × ByteArray)))))))) (a5 : List Int) (a6 : List ((Int × ByteArray))) (a7 : Int) (a8 : Int) (a9 : List ((Int × (Int × (Int × (Int × Int)))))) (a10 : List ((ByteArray × ByteArray))) (a11 : List ((Int × (Int × (Int × (ByteArray × List ((ByteArray × ByteArray)))))))) (a12 : List Int) (a13 : List ((Int × ByteArray))) (a14 : Int) (a15 : Int) (a16 : ByteArray) : call route_Outcome.C Tryz.f35 route_Outcome.code route_Outcome.sg route_Outcome.rs n (((((a0, (a1, a2)), ((a3, a4), (a5, a6))), ((a7, (a8, a9)), ((a10, a11), (a12, a13)))), a14), (a15, a16)) =
  ((route_Check.f ((((a0, a1, a2), (a3, a4), a5, a6), (a7, a8, a9), (a10, a11), a12, a13), a14)).bind fun b0 =>
  (if ¬Prod.fst b0 = 0 then (some ((0, ByteArray.mk #[])))
  else (if a15 < 0 then (some ((0, ByteArray.mk #[])))
   else (if a15 > 1 then (some ((0, ByteArray.mk #[])))
    else (if a15 = 0 then (if IntKind.wrap IntKind.i64 (1 - a15) = 0 then ((strict_Decode.f ((a0, a1, a2), a16)).bind fun b1 =>
       (if ¬Prod.fst (Prod.snd b1) = 0 then ((route_Outcome_1.f (Prod.fst b1, Prod.snd b1, ((a0, a1, a2), (a3, a4), a5, a6), (((a0, a1, a2), (a3, a4), a5, a6), (a7, a8, a9), (a10, a11), a12, a13), a14)).bind fun b2 =>
        (some b2))
       else ((xlate_Translate.f ((a3, a4), (a0, a1, a2), (a0, a1, a2), Prod.fst b1)).bind fun b3 =>
        (if ¬Prod.fst (Prod.snd b3) = 0 then ((route_Outcome_1.f (Prod.fst b1, Prod.snd b3, ((a0, a1, a2), (a3, a4), a5, a6), (((a0, a1, a2), (a3, a4), a5, a6), (a7, a8, a9), (a10, a11), a12, a13), a14)).bind fun b4 =>
         (some b4))
        else ((wire_Encode.f ((a0, a1, a2), Prod.fst b3)).bind fun b5 =>
         (if (↑(ByteArray.size (Prod.fst b5)) : Int) > a14 then ((route_Outcome_1.f (Prod.fst b1, (5, 129), ((a0, a1, a2), (a3, a4), a5, a6), (((a0, a1, a2), (a3, a4), a5, a6), (a7, a8, a9), (a10, a11), a12, a13), a14)).bind fun b6 =>
          (some b6))
         else (some ((1, Prod.fst b5)))))))))
      else (if IntKind.wrap IntKind.i64 (1 - a15) = (↑1 : Int) then ((strict_Decode.f ((a0, a1, a2), a16)).bind fun b7 =>
        (if ¬Prod.fst (Prod.snd b7) = 0 then ((route_Outcome_1.f (Prod.fst b7, Prod.snd b7, ((a0, a1, a2), (a3, a4), a5, a6), (((a0, a1, a2), (a3, a4), a5, a6), (a7, a8, a9), (a10, a11), a12, a13), a14)).bind fun b8 =>
         (some b8))
        else ((xlate_Translate.f ((a3, a4), (a0, a1, a2), (a7, a8, a9), Prod.fst b7)).bind fun b9 =>
         (if ¬Prod.fst (Prod.snd b9) = 0 then ((route_Outcome_1.f (Prod.fst b7, Prod.snd b9, ((a0, a1, a2), (a3, a4), a5, a6), (((a0, a1, a2), (a3, a4), a5, a6), (a7, a8, a9), (a10, a11), a12, a13), a14)).bind fun b10 =>
          (some b10))
         else ((wire_Encode.f ((a7, a8, a9), Prod.fst b9)).bind fun b11 =>
          (if (↑(ByteArray.size (Prod.fst b11)) : Int) > a14 then ((route_Outcome_1.f (Prod.fst b7, (5, 129), ((a0, a1, a2), (a3, a4), a5, a6), (((a0, a1, a2), (a3, a4), a5, a6), (a7, a8, a9), (a10, a11), a12, a13), a14)).bind fun b12 =>
           (some b12))
          else (some ((1, Prod.fst b11)))))))))
       else none))
     else (if a15 = (↑1 : Int) then (if IntKind.wrap IntKind.i64 (1 - a15) = 0 then ((strict_Decode.f ((a7, a8, a9), a16)).bind fun b13 =>
        (if ¬Prod.fst (Prod.snd b13) = 0 then ((route_Outcome_1.f (Prod.fst b13, Prod.snd b13, ((a7, a8, a9), (a10, a11), a12, a13), (((a0, a1, a2), (a3, a4), a5, a6), (a7, a8, a9), (a10, a11), a12, a13), a14)).bind fun b14 =>
         (some b14))
        else ((xlate_Translate.f ((a10, a11), (a7, a8, a9), (a0, a1, a2), Prod.fst b13)).bind fun b15 =>
         (if ¬Prod.fst (Prod.snd b15) = 0 then ((route_Outcome_1.f (Prod.fst b13, Prod.snd b15, ((a7, a8, a9), (a10, a11), a12, a13), (((a0, a1, a2), (a3, a4), a5, a6), (a7, a8, a9), (a10, a11), a12, a13), a14)).bind fun b16 =>
          (some b16))
         else ((wire_Encode.f ((a0, a1, a2), Prod.fst b15)).bind fun b17 =>
          (if (↑(ByteArray.size (Prod.fst b17)) : Int) > a14 then ((route_Outcome_1.f (Prod.fst b13, (5, 129), ((a7, a8, a9), (a10, a11), a12, a13), (((a0, a1, a2), (a3, a4), a5, a6), (a7, a8, a9), (a10, a11), a12, a13), a14)).bind fun b18 =>
           (some b18))
          else (some ((1, Prod.fst b17)))))))))
       else (if IntKind.wrap IntKind.i64 (1 - a15) = (↑1 : Int) then ((strict_Decode.f ((a7, a8, a9), a16)).bind fun b19 =>
         (if ¬Prod.fst (Prod.snd b19) = 0 then ((route_Outcome_1.f (Prod.fst b19, Prod.snd b19, ((a7, a8, a9), (a10, a11), a12, a13), (((a0, a1, a2), (a3, a4), a5, a6), (a7, a8, a9), (a10, a11), a12, a13), a14)).bind fun b20 =>
          (some b20))
         else ((xlate_Translate.f ((a10, a11), (a7, a8, a9), (a7, a8, a9), Prod.fst b19)).bind fun b21 =>
          (if ¬Prod.fst (Prod.snd b21) = 0 then ((route_Outcome_1.f (Prod.fst b19, Prod.snd b21, ((a7, a8, a9), (a10, a11), a12, a13), (((a0, a1, a2), (a3, a4), a5, a6), (a7, a8, a9), (a10, a11), a12, a13), a14)).bind fun b22 =>
           (some b22))
          else ((wire_Encode.f ((a7, a8, a9), Prod.fst b21)).bind fun b23 =>
           (if (↑(ByteArray.size (Prod.fst b23)) : Int) > a14 then ((route_Outcome_1.f (Prod.fst b19, (5, 129), ((a7, a8, a9), (a10, a11), a12, a13), (((a0, a1, a2), (a3, a4), a5, a6), (a7, a8, a9), (a10, a11), a12, a13), a14)).bind fun b24 =>
            (some b24))
           else (some ((1, Prod.fst b23)))))))))
        else none))
      else none)))))) := by kernel_rfl
noncomputable def route_Outcome.f : El (sgTy route_Outcome.sg) → Option (El route_Outcome.rs.ty) := fun x => call route_Outcome.C Tryz.f35 route_Outcome.code route_Outcome.sg route_Outcome.rs 0 x
noncomputable def route_Outcome.c : Con := ⟨35, route_Outcome.sg, route_Outcome.rs, route_Outcome.f⟩
theorem route_Outcome.con : ConOk Tryz.prog route_Outcome.c := walked (C := route_Outcome.C) rfl (by kernel_rfl) (by kernel_rfl) (by kernel_rfl) rfl ⟨wire_Encode.con, strict_Decode.con, xlate_Translate.con, route_Check.con, route_Outcome_1.con, trivial⟩ fun x y h => ⟨0, h⟩
def liveB : ByteArray := ByteArray.mk #[48, 56, 48, 48, 48, 48, 50, 48, 48, 48, 48, 48, 48, 48, 48, 48, 48, 48, 48, 48, 48, 48, 48, 48, 48, 49]
def liveM : ByteArray × List (Int × ByteArray) := (ByteArray.mk #[48, 56, 48, 48], [(11, ByteArray.mk #[48, 48, 48, 48, 48, 49])])
theorem live1 : groatref14_Schema.f 0 = some (1, 0, schema0) := by kernel_rfl
theorem live2 : wire_Encode.f ((1, 0, schema0), liveM) = some (liveB, (0, 0)) := by kernel_rfl
theorem live3 : strict_Decode.f ((1, 0, schema0), liveB) = some (liveM, (0, 0)) := by kernel_rfl
def liveY : ByteArray × List (Int × ByteArray) := (ByteArray.mk #[49, 56, 48, 52], [(11, ByteArray.mk #[48, 48, 48, 48, 48, 49]), (26, ByteArray.mk #[53, 57, 57, 57])])
def liveC : ByteArray := ByteArray.mk #[24, 4, 0, 32, 0, 64, 0, 0, 0, 0, 0, 0, 1, 89, 153]
def liveE : ByteArray := ByteArray.mk #[48, 56, 48, 48, 48, 48, 50, 48, 48, 48, 48, 48, 48, 48, 48, 48, 48, 48, 48, 48, 48, 48, 48, 48, 48, 49, 48]
def liveR : ByteArray × List (Int × ByteArray) := (ByteArray.mk #[48, 56, 49, 48], [(11, ByteArray.mk #[48, 48, 48, 48, 48, 49]), (39, ByteArray.mk #[51, 48])])
def liveD : ByteArray := ByteArray.mk #[48, 56, 49, 48, 48, 48, 50, 48, 48, 48, 48, 48, 48, 50, 48, 48, 48, 48, 48, 48, 48, 48, 48, 48, 48, 49, 51, 48]
theorem live4 : xlate_Translate.f ((types0, rules0), (1, 0, schema0), (2, 1, schema1), liveM) = some (liveY, (0, 0)) := by kernel_rfl
theorem live5 : wire_Encode.f ((2, 1, schema1), liveY) = some (liveC, (0, 0)) := by kernel_rfl
theorem live6 : strict_Decode.f ((1, 0, schema0), liveE) = some (liveM, (12, 129)) := by kernel_rfl
theorem live7 : reject_Build.f (side0, liveM, (12, 129)) = some (liveR, true) := by kernel_rfl
theorem live8 : wire_Encode.f ((1, 0, schema0), liveR) = some (liveD, (0, 0)) := by kernel_rfl
theorem live9 : route_Check.f builtV = some (0, 0, 0) := by
  have e1 : reject_Check.f side0 = some (0, 0, 0) := by kernel_rfl
  have e2 : reject_Check.f side1 = some (0, 0, 0) := by kernel_rfl
  have e3 : xlate_Check.f ((types0, rules0), (1, 0, schema0), (2, 1, schema1)) = some (0, 0, 0) := by kernel_rfl
  have e4 : xlate_Check.f ((types1, rules1), (2, 1, schema1), (1, 0, schema0)) = some (0, 0, 0) := by kernel_rfl
  have w0 : IntKind.wrap .i64 (1 - (0 : Int)) = (↑1 : Int) := by decide
  have w1 : IntKind.wrap .i64 (1 - (1 : Int)) = 0 := by decide
  have w2 : IntKind.wrap .i64 ((0 : Int) + 1) = 1 := by decide
  have w3 : IntKind.wrap .i64 ((1 : Int) + 1) = 2 := by decide
  refine (route_Check.eq 3 1 0 schema0 types0 rules0 echoV codes0 2 1 schema1 types1 rules1 echoV codes1 4096).trans ?_
  rw [if_neg (by decide), if_neg (by decide), route_Check.l0_eq, if_pos (by decide), if_pos rfl]
  rw [show reject_Check.f ((1, 0, schema0), (types0, rules0), echoV, codes0) = _ from e1, Option.bind_some, if_neg (by decide), if_neg (by decide), if_pos w0, e3, Option.bind_some, if_neg (by decide)]
  rw [w2, route_Check.l0_eq, if_pos (by decide), if_neg (by decide), if_pos (by decide)]
  rw [show reject_Check.f ((2, 1, schema1), (types1, rules1), echoV, codes1) = _ from e2, Option.bind_some, if_neg (by decide), if_pos w1, e4, Option.bind_some, if_neg (by decide)]
  rw [w3, route_Check.l0_eq, if_neg (by decide)]
end Go.Proofs.YtkaihbkfobiejaaGreatDoor.Xe
