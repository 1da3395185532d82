import Derived.Test.YtkaihbkfobiejaaGreatDoorZ9
import Derived.Test.YtkaihbkfobiejaaGreatDoorZ10
import Derived.Test.YtkaihbkfobiejaaGreatDoorZ7
import Derived.Test.YtkaihbkfobiejaaGreatDoorZ8
namespace Go.Proofs.YtkaihbkfobiejaaGreatDoor.Xe
open Go Go.RowKit Go.Proofs.YtkaihbkfobiejaaGreatDoor.Sp
set_option linter.unusedVariables false
set_option linter.unusedSimpArgs false
set_option maxRecDepth 100000
def schema0 : List (Int × Int × Int × Int × Int) := [(2, 1, 2, 12, 19), (3, 1, 1, 6, 6), (4, 1, 1, 12, 12), (7, 1, 1, 10, 10), (11, 1, 1, 6, 6), (12, 1, 1, 6, 6), (13, 1, 1, 4, 4), (14, 1, 1, 4, 4), (18, 1, 1, 4, 4), (22, 1, 1, 3, 3), (23, 1, 1, 3, 3), (32, 1, 2, 1, 11), (35, 4, 2, 1, 37), (37, 3, 1, 12, 12), (38, 3, 1, 6, 6), (39, 3, 1, 2, 2), (41, 4, 1, 8, 8), (42, 4, 1, 15, 15), (43, 4, 1, 40, 40), (48, 4, 3, 1, 999), (49, 1, 1, 3, 3), (52, 5, 1, 8, 8), (55, 6, 3, 1, 255), (64, 5, 1, 8, 8), (70, 1, 1, 3, 3), (90, 1, 1, 42, 42), (102, 4, 2, 1, 28), (128, 5, 1, 8, 8)]
def schema1 : List (Int × Int × Int × Int × Int) := [(2, 1, 2, 12, 19), (3, 1, 1, 6, 6), (4, 1, 1, 12, 12), (7, 1, 1, 10, 10), (11, 1, 1, 6, 6), (12, 1, 1, 12, 12), (14, 1, 1, 4, 4), (22, 3, 1, 12, 12), (23, 1, 1, 3, 3), (26, 1, 1, 4, 4), (32, 1, 2, 1, 11), (35, 4, 2, 1, 37), (37, 3, 1, 12, 12), (38, 3, 1, 6, 6), (39, 1, 1, 3, 3), (41, 4, 1, 8, 8), (42, 4, 1, 15, 15), (43, 4, 2, 1, 99), (48, 4, 3, 1, 999), (49, 1, 1, 3, 3), (52, 5, 1, 8, 8), (55, 6, 3, 1, 255), (64, 5, 1, 8, 8), (70, 1, 1, 3, 3), (102, 4, 2, 1, 28), (128, 5, 1, 8, 8)]
def types0 : List (ByteArray × ByteArray) := [(ByteArray.mk #[48, 49, 48, 48], ByteArray.mk #[49, 49, 48, 48]), (ByteArray.mk #[48, 49, 49, 48], ByteArray.mk #[49, 49, 49, 48]), (ByteArray.mk #[48, 50, 48, 48], ByteArray.mk #[49, 50, 48, 48]), (ByteArray.mk #[48, 50, 49, 48], ByteArray.mk #[49, 50, 49, 48]), (ByteArray.mk #[48, 50, 50, 48], ByteArray.mk #[49, 50, 50, 48]), (ByteArray.mk #[48, 50, 51, 48], ByteArray.mk #[49, 50, 51, 48]), (ByteArray.mk #[48, 52, 48, 48], ByteArray.mk #[49, 52, 48, 48]), (ByteArray.mk #[48, 52, 49, 48], ByteArray.mk #[49, 52, 49, 48]), (ByteArray.mk #[48, 52, 50, 48], ByteArray.mk #[49, 52, 50, 48]), (ByteArray.mk #[48, 52, 51, 48], ByteArray.mk #[49, 52, 51, 48]), (ByteArray.mk #[48, 56, 48, 48], ByteArray.mk #[49, 56, 48, 52]), (ByteArray.mk #[48, 56, 49, 48], ByteArray.mk #[49, 56, 49, 52])]
def types1 : List (ByteArray × ByteArray) := [(ByteArray.mk #[49, 49, 48, 48], ByteArray.mk #[48, 49, 48, 48]), (ByteArray.mk #[49, 49, 49, 48], ByteArray.mk #[48, 49, 49, 48]), (ByteArray.mk #[49, 50, 48, 48], ByteArray.mk #[48, 50, 48, 48]), (ByteArray.mk #[49, 50, 49, 48], ByteArray.mk #[48, 50, 49, 48]), (ByteArray.mk #[49, 50, 50, 48], ByteArray.mk #[48, 50, 50, 48]), (ByteArray.mk #[49, 50, 51, 48], ByteArray.mk #[48, 50, 51, 48]), (ByteArray.mk #[49, 52, 48, 48], ByteArray.mk #[48, 52, 48, 48]), (ByteArray.mk #[49, 52, 49, 48], ByteArray.mk #[48, 52, 49, 48]), (ByteArray.mk #[49, 52, 50, 48], ByteArray.mk #[48, 52, 50, 48]), (ByteArray.mk #[49, 52, 51, 48], ByteArray.mk #[48, 52, 51, 48]), (ByteArray.mk #[49, 56, 48, 52], ByteArray.mk #[48, 56, 48, 48]), (ByteArray.mk #[49, 56, 49, 52], ByteArray.mk #[48, 56, 49, 48])]
def rules0 : List (Int × Int × Int × ByteArray × List (ByteArray × ByteArray)) := [(1, 2, 2, ByteArray.mk #[], []), (1, 3, 3, ByteArray.mk #[], []), (1, 4, 4, ByteArray.mk #[], []), (1, 7, 7, ByteArray.mk #[], []), (1, 11, 11, ByteArray.mk #[], []), (4, 12, 12, ByteArray.mk #[], []), (1, 14, 14, ByteArray.mk #[], []), (1, 23, 23, ByteArray.mk #[], []), (1, 32, 32, ByteArray.mk #[], []), (1, 35, 35, ByteArray.mk #[], []), (1, 37, 37, ByteArray.mk #[], []), (1, 38, 38, ByteArray.mk #[], []), (1, 41, 41, ByteArray.mk #[], []), (1, 42, 42, ByteArray.mk #[], []), (1, 49, 49, ByteArray.mk #[], []), (1, 52, 52, ByteArray.mk #[], []), (1, 55, 55, ByteArray.mk #[], []), (1, 64, 64, ByteArray.mk #[], []), (1, 70, 70, ByteArray.mk #[], []), (1, 102, 102, ByteArray.mk #[], []), (1, 128, 128, ByteArray.mk #[], []), (2, 13, 0, ByteArray.mk #[], []), (2, 18, 0, ByteArray.mk #[], []), (2, 90, 0, ByteArray.mk #[], []), (5, 22, 22, ByteArray.mk #[], [(ByteArray.mk #[48, 53, 49], ByteArray.mk #[53, 49, 48, 49, 48, 49, 53, 49, 49, 51, 52, 52]), (ByteArray.mk #[48, 50, 49], ByteArray.mk #[50, 49, 48, 49, 48, 49, 50, 49, 49, 51, 52, 52]), (ByteArray.mk #[48, 49, 50], ByteArray.mk #[49, 48, 48, 49, 52, 48, 49, 48, 48, 49, 49, 48])]), (5, 39, 39, ByteArray.mk #[], [(ByteArray.mk #[48, 48], ByteArray.mk #[48, 48, 48]), (ByteArray.mk #[48, 53], ByteArray.mk #[49, 48, 48]), (ByteArray.mk #[49, 52], ByteArray.mk #[49, 49, 49]), (ByteArray.mk #[53, 49], ByteArray.mk #[49, 49, 54]), (ByteArray.mk #[53, 52], ByteArray.mk #[49, 48, 49]), (ByteArray.mk #[57, 49], ByteArray.mk #[57, 48, 55]), (ByteArray.mk #[57, 54], ByteArray.mk #[57, 48, 57])]), (1, 43, 43, ByteArray.mk #[], []), (1, 48, 48, ByteArray.mk #[], []), (3, 0, 26, ByteArray.mk #[53, 57, 57, 57], [])]
def rules1 : List (Int × Int × Int × ByteArray × List (ByteArray × ByteArray)) := [(1, 2, 2, ByteArray.mk #[], []), (1, 3, 3, ByteArray.mk #[], []), (1, 4, 4, ByteArray.mk #[], []), (1, 7, 7, ByteArray.mk #[], []), (1, 11, 11, ByteArray.mk #[], []), (4, 12, 12, ByteArray.mk #[], []), (1, 14, 14, ByteArray.mk #[], []), (1, 23, 23, ByteArray.mk #[], []), (1, 32, 32, ByteArray.mk #[], []), (1, 35, 35, ByteArray.mk #[], []), (1, 37, 37, ByteArray.mk #[], []), (1, 38, 38, ByteArray.mk #[], []), (1, 41, 41, ByteArray.mk #[], []), (1, 42, 42, ByteArray.mk #[], []), (1, 49, 49, ByteArray.mk #[], []), (1, 52, 52, ByteArray.mk #[], []), (1, 55, 55, ByteArray.mk #[], []), (1, 64, 64, ByteArray.mk #[], []), (1, 70, 70, ByteArray.mk #[], []), (1, 102, 102, ByteArray.mk #[], []), (1, 128, 128, ByteArray.mk #[], []), (2, 26, 0, ByteArray.mk #[], []), (2, 43, 0, ByteArray.mk #[], []), (5, 22, 22, ByteArray.mk #[], [(ByteArray.mk #[53, 49, 48, 49, 48, 49, 53, 49, 49, 51, 52, 52], ByteArray.mk #[48, 53, 49]), (ByteArray.mk #[50, 49, 48, 49, 48, 49, 50, 49, 49, 51, 52, 52], ByteArray.mk #[48, 50, 49]), (ByteArray.mk #[49, 48, 48, 49, 52, 48, 49, 48, 48, 49, 49, 48], ByteArray.mk #[48, 49, 50])]), (5, 39, 39, ByteArray.mk #[], [(ByteArray.mk #[48, 48, 48], ByteArray.mk #[48, 48]), (ByteArray.mk #[49, 48, 48], ByteArray.mk #[48, 53]), (ByteArray.mk #[49, 49, 49], ByteArray.mk #[49, 52]), (ByteArray.mk #[49, 49, 54], ByteArray.mk #[53, 49]), (ByteArray.mk #[49, 48, 49], ByteArray.mk #[53, 52]), (ByteArray.mk #[57, 48, 55], ByteArray.mk #[57, 49]), (ByteArray.mk #[57, 48, 57], ByteArray.mk #[57, 54])]), (1, 48, 48, ByteArray.mk #[], [])]
def echoV : List Int := [2, 3, 4, 7, 11, 12, 32, 37, 41, 42, 70]
def codes0 : List (Int × ByteArray) := [(0, ByteArray.mk #[57, 54]), (2, ByteArray.mk #[51, 48]), (3, ByteArray.mk #[51, 48]), (12, ByteArray.mk #[51, 48]), (9, ByteArray.mk #[51, 48]), (15, ByteArray.mk #[49, 50])]
def codes1 : List (Int × ByteArray) := [(0, ByteArray.mk #[57, 48, 57]), (2, ByteArray.mk #[57, 48, 52]), (3, ByteArray.mk #[57, 48, 52]), (12, ByteArray.mk #[57, 48, 52]), (9, ByteArray.mk #[57, 48, 52]), (15, ByteArray.mk #[57, 48, 50])]
@[reducible] def r24_pairs.sg : List Shp := [.v (.sl (.str))]
@[reducible] def r24_pairs.rs : Rs := .one (.v (.sl zdP))
@[reducible] noncomputable def r24_pairs.code : Code := Tryz.f78.body.getD .skip
noncomputable def r24_pairs.C : Ctx := ⟨tab, [], [], ⟨[(3, [0, 3, 4], 0)], []⟩⟩
noncomputable def r24_pairs.f : El (sgTy r24_pairs.sg) → Option (El r24_pairs.rs.ty) := fun x => call r24_pairs.C Tryz.f78 r24_pairs.code r24_pairs.sg r24_pairs.rs 1000 x
noncomputable def r24_pairs.c : Con := ⟨78, r24_pairs.sg, r24_pairs.rs, r24_pairs.f⟩
theorem r24_pairs.con : ConOk Tryz.prog r24_pairs.c := walked (C := r24_pairs.C) rfl (by kernel_rfl) (by kernel_rfl) (by kernel_rfl) rfl trivial fun x y h => ⟨1000, h⟩
@[reducible] def r24_codes.sg : List Shp := [.v (.str), .v (.str), .v (.str)]
@[reducible] def r24_codes.rs : Rs := .one (.v (.sl zdE))
@[reducible] noncomputable def r24_codes.code : Code := Tryz.f81.body.getD .skip
noncomputable def r24_codes.C : Ctx := ⟨tab, [], [], ⟨[], []⟩⟩
noncomputable def r24_codes.f : El (sgTy r24_codes.sg) → Option (El r24_codes.rs.ty) := fun x => call r24_codes.C Tryz.f81 r24_codes.code r24_codes.sg r24_codes.rs 10 x
noncomputable def r24_codes.c : Con := ⟨81, r24_codes.sg, r24_codes.rs, r24_codes.f⟩
theorem r24_codes.con : ConOk Tryz.prog r24_codes.c := walked (C := r24_codes.C) rfl (by kernel_rfl) (by kernel_rfl) (by kernel_rfl) rfl trivial fun x y h => ⟨10, h⟩
@[reducible] def r19_Turn.sg : List Shp := [.v (.sl zdP)]
@[reducible] def r19_Turn.rs : Rs := .one (.v (.sl zdP))
@[reducible] noncomputable def r19_Turn.code : Code := Tryz.f80.body.getD .skip
noncomputable def r19_Turn.C : Ctx := ⟨tab, [], [], ⟨[(3, [0, 3, 4], 0)], []⟩⟩
noncomputable def r19_Turn.f : El (sgTy r19_Turn.sg) → Option (El r19_Turn.rs.ty) := fun x => call r19_Turn.C Tryz.f80 r19_Turn.code r19_Turn.sg r19_Turn.rs 1000 x
noncomputable def r19_Turn.c : Con := ⟨80, r19_Turn.sg, r19_Turn.rs, r19_Turn.f⟩
theorem r19_Turn.con : ConOk Tryz.prog r19_Turn.c := walked (C := r19_Turn.C) rfl (by kernel_rfl) (by kernel_rfl) (by kernel_rfl) rfl trivial fun x y h => ⟨1000, h⟩
@[reducible] def r14_Lossless.sg : List Shp := []
@[reducible] def r14_Lossless.rs : Rs := .one (.v (.sl (.int .i64)))
@[reducible] noncomputable def r14_Lossless.code : Code := Tryz.f119.body.getD .skip
noncomputable def r14_Lossless.C : Ctx := ⟨tab, [], [], ⟨[], []⟩⟩
noncomputable def r14_Lossless.f : El (sgTy r14_Lossless.sg) → Option (El r14_Lossless.rs.ty) := fun x => call r14_Lossless.C Tryz.f119 r14_Lossless.code r14_Lossless.sg r14_Lossless.rs 10 x
noncomputable def r14_Lossless.c : Con := ⟨119, r14_Lossless.sg, r14_Lossless.rs, r14_Lossless.f⟩
theorem r14_Lossless.con : ConOk Tryz.prog r14_Lossless.c := walked (C := r14_Lossless.C) rfl (by kernel_rfl) (by kernel_rfl) (by kernel_rfl) rfl trivial fun x y h => ⟨10, h⟩
@[reducible] noncomputable def r24_kept.code : Code := Tryz.f79.body.getD .skip
noncomputable def r24_kept.C : Ctx := ⟨tab, [r14_Lossless.c], [], ⟨[(4, [1, 2, 3], 0)], []⟩⟩
@[reducible] def RuleTy : Ty := .pair (.int .i64) (.pair (.int .i64) (.pair (.int .i64) (.pair .str (.sl (.pair .str .str)))))
noncomputable def keptS : ConS := ownC 79 RuleTy (callO r24_kept.C Tryz.f79 r24_kept.code [] RuleTy 1000 ())
theorem keptS_ok : ConSOk Tryz.prog keptS := ownC_ok (C := r24_kept.C) (show TabOk Tryz.prog r24_kept.C.T from tabOk) ⟨AllOk.all (show AllOk r24_kept.C.G from ⟨r14_Lossless.con, trivial⟩), fun c hc => absurd (show c ∈ ([] : List ConS) from hc) (by simp)⟩ mixed (by kernel_rfl) (by kernel_rfl) (by kernel_rfl)
@[reducible] def r24_Built.sg : List Shp := []
@[reducible] def r24_Built.rs : Rs := .one (.a zdG)
@[reducible] noncomputable def r24_Built.code : Code := Tryz.f36.body.getD .skip
noncomputable def r24_Built.C : Ctx := ⟨tab, [r14_Schema.c, r24_pairs.c, r19_Turn.c, r24_codes.c], [keptS], ⟨[], []⟩⟩
def side0 : El (.pair (.pair (.int .i64) (.pair (.int .i64) (.sl (.pair (.int .i64) (.pair (.int .i64) (.pair (.int .i64) (.pair (.int .i64) (.int .i64)))))))) (.pair (.pair (.sl (.pair (.str) (.str))) (.sl (.pair (.int .i64) (.pair (.int .i64) (.pair (.int .i64) (.pair (.str) (.sl (.pair (.str) (.str))))))))) (.pair (.sl (.int .i64)) (.sl (.pair (.int .i64) (.str)))))) := ((1, 0, schema0), (types0, rules0), echoV, codes0)
def side1 : El (.pair (.pair (.int .i64) (.pair (.int .i64) (.sl (.pair (.int .i64) (.pair (.int .i64) (.pair (.int .i64) (.pair (.int .i64) (.int .i64)))))))) (.pair (.pair (.sl (.pair (.str) (.str))) (.sl (.pair (.int .i64) (.pair (.int .i64) (.pair (.int .i64) (.pair (.str) (.sl (.pair (.str) (.str))))))))) (.pair (.sl (.int .i64)) (.sl (.pair (.int .i64) (.str)))))) := ((2, 1, schema1), (types1, rules1), echoV, codes1)
def builtV : El r24_Built.rs.ty := ((side0, side1), 4096)
theorem Built_run : call r24_Built.C Tryz.f36 r24_Built.code r24_Built.sg r24_Built.rs 1000 () = some builtV := by kernel_rfl
noncomputable def r24_Built.f : El (sgTy r24_Built.sg) → Option (El r24_Built.rs.ty) := fun _ => some builtV
noncomputable def r24_Built.c : Con := ⟨36, r24_Built.sg, r24_Built.rs, r24_Built.f⟩
theorem r24_Built.con : ConOk Tryz.prog r24_Built.c := con_ok (C := r24_Built.C) (show TabOk Tryz.prog r24_Built.C.T from tabOk) ⟨AllOk.all (show AllOk r24_Built.C.G from ⟨r14_Schema.con, r24_pairs.con, r19_Turn.con, r24_codes.con, trivial⟩), fun c hc => by
  rw [List.mem_singleton.1 (show c ∈ [keptS] from hc)]; exact keptS_ok⟩ mixed (by kernel_rfl) (by kernel_rfl) (by kernel_rfl) fun x y h => ⟨1000, Built_run.trans h⟩
@[reducible] def reject_Code.sg : List Shp := [.a zdK, .v (.int .i64)]
@[reducible] def reject_Code.rs : Rs := .one (.v (.str))
@[reducible] noncomputable def reject_Code.code : Code := Tryz.f118.body.getD .skip
noncomputable def reject_Code.C : Ctx := ⟨tab, [], [], ⟨[(2, [2, 10, 11, 12], 1), (5, [2, 6, 10, 11, 12, 17, 18, 19], 1)], []⟩⟩
noncomputable def reject_Code.l0 (n : Nat) (v0 : List Int) (v1 v2 v3 v4 : Int) (v5 : List z5) (v6 : List zP) (v7 : List zR) (v8 : List Int) (v9 : List zE) : Option ByteArray := run reject_Code.C (finOf reject_Code.C Tryz.f118 reject_Code.rs) n (todoAt 2 reject_Code.code) ⟨zJ :: zJ :: .ptr 0 0 :: zJ :: zJ :: zJ :: zJ :: zJ :: zJ :: zJ :: .sl (some 0) (.int .i64) v0 :: .int .i64 v1 :: .int .i64 v2 :: zJ :: zJ :: zK (zK []), [[.int .i64 v3, .int .i64 v4, .sl none zd5 v5, .sl none zdP v6, .sl none zdR v7, .sl none (.int .i64) v8, .sl none zdE v9]], [true]⟩
noncomputable def reject_Code.l1 (n : Nat) (v0 : Int) (v1 : List Int) (v2 v3 : Int) (v4 : List zE) (v5 v6 v7 v8 : Int) (v9 : List z5) (v10 : List zP) (v11 : List zR) (v12 : List Int) (v13 : List zE) : Option ByteArray := run reject_Code.C (finOf reject_Code.C Tryz.f118 reject_Code.rs) n (todoAt 5 reject_Code.code) ⟨zJ :: zJ :: .ptr 0 0 :: zJ :: zJ :: zJ :: .int .i64 v0 :: zJ :: zJ :: zJ :: .sl (some 0) (.int .i64) v1 :: .int .i64 v2 :: .int .i64 v3 :: zJ :: zJ :: zJ :: zJ :: .sl none zdE v4 :: .int .i64 v5 :: .int .i64 v6 :: zJ :: zJ :: zJ :: zK [], [[.int .i64 v7, .int .i64 v8, .sl none zd5 v9, .sl none zdP v10, .sl none zdR v11, .sl none (.int .i64) v12, .sl none zdE v13]], [true]⟩
theorem reject_Code.l0_eq n v0 v1 v2 v3 v4 v5 v6 v7 v8 v9 : reject_Code.l0 (n + 1) v0 v1 v2 v3 v4 v5 v6 v7 v8 v9 =
 (if v2 < v1 then ((lget v0 v2).bind fun b0 =>
 (reject_Code.l1 n b0 v0 v1 v2 v9 (v9.length : Int) 0 v3 v4 v5 v6 v7 v8 v9))
 else (some (ByteArray.mk #[]))) := by kernel_rfl
theorem reject_Code.l1_eq n v0 v1 v2 v3 v4 v5 v6 v7 v8 v9 v10 v11 v12 v13 : reject_Code.l1 (n + 1) v0 v1 v2 v3 v4 v5 v6 v7 v8 v9 v10 v11 v12 v13 =
 (if v6 < v5 then ((lget v4 v6).bind fun b1 =>
 (if b1.1 = v0 then (some b1.2)
 else (reject_Code.l1 n v0 v1 v2 v3 v4 v5 (IntKind.wrap .i64 (v6 + 1)) v7 v8 v9 v10 v11 v12 v13)))
 else (reject_Code.l0 n v1 v2 (IntKind.wrap .i64 (v3 + 1)) v7 v8 v9 v10 v11 v12 v13)) := by kernel_rfl
theorem reject_Code.eq (n : Nat) (a0 a1 : Int) (a2 : List z5) (a3 : List zP) (a4 : List zR) (a5 : List Int) (a6 : List zE) (a7 : Int) : call reject_Code.C Tryz.f118 reject_Code.code reject_Code.sg reject_Code.rs n (((a0, (a1, a2)), ((a3, a4), (a5, a6))), a7) =
 (reject_Code.l0 n ([a7, 0]) ((↑(List.length [a7, 0]) : Int)) 0 a0 a1 a2 a3 a4 a5 a6) := by kernel_rfl
def reject_Code.f (x : RJ × Int) : Option ByteArray := if x.1.2.2.2.length ≤ 5864062014700 then some (codeV x.2 x.1.2.2.2) else none
theorem reject_Code (s : Int × Int × List S5) (c : RC) (e : List Int) (l : List V) (hl : l.length ≤ 5864062014700) (n : Int) : reject_Code.f ((s, c, e, l), n) = some (codeV n l) := if_pos hl
theorem reject_Code_l1 (l : List V) (hl : l.length ≤ 5864062014700) (n : Int) (w : List Int) (a j q1 q2 : Int) (s : List S5) (c1 : List (ByteArray × ByteArray)) (c2 : List (Int × Int × Int × ByteArray × List (ByteArray × ByteArray))) (e : List Int) : ∀ (m : List V) (k i : Nat), l.drop i = m →
  reject_Code.l1 (k + m.length + 1) n w a j l (l.length : Int) (i : Int) q1 q2 s c1 c2 e l = if (getV n m).2 = true then some (getV n m).1 else reject_Code.l0 k w a (IntKind.wrap .i64 (j + 1)) q1 q2 s c1 c2 e l
 | [], k, i, hd => by
  have := dropn hd
  rw [reject_Code.l1_eq, if_neg (by omega)]; rfl
 | v :: m, k, i, hd => by
  obtain ⟨h1, h2, h3, h4⟩ := dropc hd
  rw [reject_Code.l1_eq, if_pos (by omega), h4, Option.bind_some, wrap_succ (by omega), getV]
  by_cases c : v.1 = n
  ·rw [if_pos c, if_pos c]; rfl
  ·rw [if_neg c, if_neg c, List.length_cons, ← Nat.add_assoc k m.length 1]
   exact reject_Code_l1 l hl n w a j q1 q2 s c1 c2 e m k (i + 1) h2
theorem getV_no {n : Int} {l : List V} (h : ¬ (getV n l).2 = true) : (getV n l).1 = sb [] := by
 rcases findV_get n l 0 with ⟨-, h2⟩ | ⟨k, -, h2, h3⟩
 ·rw [h2]
 ·rw [h3] at h; exact absurd rfl h
theorem reject_Code.run (q1 q2 : Int) (s : List S5) (c1 : List (ByteArray × ByteArray)) (c2 : List (Int × Int × Int × ByteArray × List (ByteArray × ByteArray))) (e : List Int) (l : List V) (hl : l.length ≤ 5864062014700) (n : Int) :
  call reject_Code.C Tryz.f118 reject_Code.code reject_Code.sg reject_Code.rs ((1 + l.length + 1 + 1) + l.length + 1 + 1) (((q1, q2, s), (c1, c2), e, l), n) = some (codeV n l) := by
 have r1 := reject_Code_l1 l hl n [n, 0] 2 0 q1 q2 s c1 c2 e l (1 + l.length + 1 + 1) 0 rfl
 have r2 := reject_Code_l1 l hl 0 [n, 0] 2 1 q1 q2 s c1 c2 e l 1 0 rfl
 have z1 : IntKind.wrap .i64 ((0 : Int) + 1) = 1 := wrap_nat (n := 1) (by decide)
 have z2 : IntKind.wrap .i64 ((1 : Int) + 1) = 2 := wrap_nat (n := 2) (by decide)
 have g0 : lget [n, 0] 0 = some n := rfl
 have g1 : lget [n, 0] 1 = some 0 := rfl
 have l2 : ((List.length [n, 0] : Nat) : Int) = 2 := rfl
 have e3 : reject_Code.l0 1 [n, 0] 2 2 q1 q2 s c1 c2 e l = some (sb []) := by rw [reject_Code.l0_eq, if_neg (by decide)]; rfl
 have e2 : reject_Code.l0 (1 + l.length + 1 + 1) [n, 0] 2 1 q1 q2 s c1 c2 e l = some (getV 0 l).1 := by
  rw [reject_Code.l0_eq, if_pos (by decide), g1, Option.bind_some]
  refine r2.trans ?_
  by_cases c : (getV 0 l).2 = true
  ·rw [if_pos c]
  ·rw [if_neg c, z2, e3, getV_no c]
 rw [reject_Code.eq, l2, reject_Code.l0_eq, if_pos (by decide), g0, Option.bind_some]
 refine r1.trans ?_
 unfold codeV
 by_cases c : (getV n l).2 = true
 ·rw [if_pos c, if_pos c]
 ·rw [if_neg c, if_neg c, z1, e2]
noncomputable def reject_Code.c : Con := ⟨118, reject_Code.sg, reject_Code.rs, reject_Code.f⟩
theorem reject_Code.con : ConOk Tryz.prog reject_Code.c := walked (C := reject_Code.C) rfl (by kernel_rfl) (by kernel_rfl) (by kernel_rfl) rfl trivial fun ⟨⟨⟨q1, q2, s⟩, ⟨c1, c2⟩, e, l⟩, n⟩ y h => by
 have h : reject_Code.f (((q1, q2, s), (c1, c2), e, l), n) = some y := h
 unfold reject_Code.f at h
 split at h
 ·rename_i hl
  exact ⟨_, (reject_Code.run q1 q2 s c1 c2 e l hl n).trans h⟩
 ·cases h
@[reducible] def msg_Set.sg : List Shp := [.a (.pair (.str) (.sl zdE))]
@[reducible] def msg_Set.rs : Rs := .one (.a (.pair (.int .u64) (.int .u64)))
@[reducible] noncomputable def msg_Set.code : Code := Tryz.f21.body.getD .skip
noncomputable def msg_Set.C : Ctx := ⟨tab, [fields_Set_With.c], [], ⟨[(3, [2, 3, 7, 8, 9], 3)], []⟩⟩
noncomputable def msg_Set.l0 (n : Nat) (v0 : List zE) (v1 v2 : Int) (v3 : ByteArray) (v4 : List zE) (v5 v6 v7 v8 : Int) : Option ((Int × Int)) := run msg_Set.C (finOf msg_Set.C Tryz.f21 msg_Set.rs) n (todoAt 3 msg_Set.code) ⟨zJ :: zJ :: .ptr 1 0 :: .ptr 2 0 :: zJ :: zJ :: zJ :: .sl none zdE v0 :: .int .i64 v1 :: .int .i64 v2 :: zJ :: zK [], [[.str v3, .sl none zdE v4], [.int .u64 v5, .int .u64 v6], [.int .u64 v7, .int .u64 v8]], []⟩
theorem msg_Set.l0_eq n v0 v1 v2 v3 v4 v5 v6 v7 v8 : msg_Set.l0 (n + 1) v0 v1 v2 v3 v4 v5 v6 v7 v8 =
 (if v2 < v1 then ((lget v0 v2).bind fun b0 =>
 ((fields_Set_With.f ((v7, v8), b0.1)).bind fun b1 =>
 (msg_Set.l0 n v0 v1 (IntKind.wrap .i64 (v2 + 1)) v3 v4 v5 v6 b1.1 b1.2)))
 else (some ((v7, v8)))) := by kernel_rfl
theorem msg_Set.eq (n : Nat) (a0 : ByteArray) (a1 : List zE) : call msg_Set.C Tryz.f21 msg_Set.code msg_Set.sg msg_Set.rs n (a0, a1) =
 (msg_Set.l0 n a1 (a1.length : Int) 0 a0 a1 0 0 0 0) := by kernel_rfl
def msg_Set.f (x : ByteArray × List V) : Option (Int × Int) := if x.2.length ≤ 5864062014700 then some (((withAll (x.2.map Prod.fst) (0, 0)).1 : Int), ((withAll (x.2.map Prod.fst) (0, 0)).2 : Int)) else none
theorem msg_Set (t : ByteArray) (l : List V) (hl : l.length ≤ 5864062014700) : msg_Set.f (t, l) = some (((withAll (l.map Prod.fst) (0, 0)).1 : Int), ((withAll (l.map Prod.fst) (0, 0)).2 : Int)) := if_pos hl
theorem msg_Set_l (l : List V) (hl : l.length ≤ 5864062014700) (t : ByteArray) (a b : Int) : ∀ (m : List V) (k i h g : Nat), l.drop i = m → h < 18446744073709551616 → g < 18446744073709551616 → m.length < k →
  msg_Set.l0 k l (l.length : Int) (i : Int) t l a b (h : Int) (g : Int) = some (((withAll (m.map Prod.fst) (h, g)).1 : Int), ((withAll (m.map Prod.fst) (h, g)).2 : Int))
 | [], k, i, h, g, hd, h1, h2, hk => by
  obtain ⟨k, rfl⟩ : ∃ m, k = m + 1 := ⟨k - 1, by omega⟩
  have := dropn hd
  rw [msg_Set.l0_eq, if_neg (by omega)]; rfl
 | v :: m, k, i, h, g, hd, h1, h2, hk => by
  obtain ⟨k, rfl⟩ : ∃ m, k = m + 1 := ⟨k - 1, by omega⟩
  obtain ⟨e1, e2, e3, e4⟩ := dropc hd
  have hk' : m.length < k := by simp at hk; omega
  rw [msg_Set.l0_eq, if_pos (by omega), e4, Option.bind_some, fields_Set_With h g h1 h2, Option.bind_some, wrap_succ (by omega), List.map_cons, withAll]
  exact msg_Set_l l hl t a b m k (i + 1) _ _ e2 (Nat.or_lt_two_pow (n := 64) h1 (fb1_lt v.1)) (Nat.or_lt_two_pow (n := 64) h2 (fb2_lt v.1)) hk'
noncomputable def msg_Set.c : Con := ⟨21, msg_Set.sg, msg_Set.rs, msg_Set.f⟩
theorem msg_Set.con : ConOk Tryz.prog msg_Set.c := walked (C := msg_Set.C) rfl (by kernel_rfl) (by kernel_rfl) (by kernel_rfl) rfl ⟨fields_Set_With.con, trivial⟩ fun ⟨t, l⟩ y h => by
 have h : msg_Set.f (t, l) = some y := h
 unfold msg_Set.f at h
 split at h
 ·rename_i hc
  exact ⟨l.length + 1, by rw [msg_Set.eq]; exact (msg_Set_l l hc t 0 0 l _ 0 0 0 rfl (by decide) (by decide) (by omega)).trans h⟩
 ·cases h
@[reducible] def msg_With_1.sg : List Shp := [.a zdE, .p (.int .i64)]
@[reducible] def msg_With_1.rs : Rs := .one (.v (.bool))
@[reducible] noncomputable def msg_With_1.code : Code := Tryz.f108.body.getD .skip
noncomputable def msg_With_1.C : Ctx := ⟨tab, [], [], ⟨[], []⟩⟩
theorem msg_With_1.eq (n : Nat) (a0 : Int) (a1 : ByteArray) (a2 : Int) : call msg_With_1.C Tryz.f108 msg_With_1.code msg_With_1.sg msg_With_1.rs n ((a0, a1), a2) =
 (some (decide (a0 > a2))) := by kernel_rfl
noncomputable def msg_With_1.f : El (sgTy msg_With_1.sg) → Option (El msg_With_1.rs.ty) := fun x => match x with
 | ((a0, a1), a2) =>
 (some (decide (a0 > a2)))
noncomputable def msg_With_1.c : Con := ⟨108, msg_With_1.sg, msg_With_1.rs, msg_With_1.f⟩
theorem msg_With_1.con : ConOk Tryz.prog msg_With_1.c := walked (C := msg_With_1.C) rfl (by kernel_rfl) (by kernel_rfl) (by kernel_rfl) rfl trivial fun ⟨⟨a0, a1⟩, a2⟩ y h => ⟨0, (msg_With_1.eq 0 a0 a1 a2).trans h⟩
@[reducible] def slices_IndexFunc.sg : List Shp := [.v (.sl zdE), .fn 108 [.int .i64]]
@[reducible] def slices_IndexFunc.rs : Rs := .one (.v (.int .i64))
@[reducible] noncomputable def slices_IndexFunc.code : Code := Tryz.f107.body.getD .skip
noncomputable def slices_IndexFunc.C : Ctx := ⟨tab, [msg_With_1.c], [], ⟨[(2, [0, 1, 7, 8], 0)], []⟩⟩
noncomputable def slices_IndexFunc.l0 (n : Nat) (v0 : List zE) (v1 v2 v3 : Int) : Option Int := run slices_IndexFunc.C (finOf slices_IndexFunc.C Tryz.f107 slices_IndexFunc.rs) n (todoAt 2 slices_IndexFunc.code) ⟨.sl none zdE v0 :: .fn 108 [.elp (.int .i64) v1 0] :: zJ :: zJ :: zJ :: zJ :: zJ :: .int .i64 v2 :: .int .i64 v3 :: zJ :: zJ :: zK [], [], []⟩
theorem slices_IndexFunc.l0_eq n v0 v1 v2 v3 : slices_IndexFunc.l0 (n + 1) v0 v1 v2 v3 =
 (if v3 < v2 then ((lget v0 v3).bind fun b0 =>
 ((msg_With_1.f (b0, v1)).bind fun b1 =>
 (if b1 = true then (some v3)
 else (slices_IndexFunc.l0 n v0 v1 v2 (IntKind.wrap .i64 (v3 + 1))))))
 else (some (-1))) := by kernel_rfl
theorem slices_IndexFunc.eq (n : Nat) (a0 : List zE) (a1 : Int) : call slices_IndexFunc.C Tryz.f107 slices_IndexFunc.code slices_IndexFunc.sg slices_IndexFunc.rs n (a0, a1) =
 (slices_IndexFunc.l0 n a0 a1 (a0.length : Int) 0) := by kernel_rfl
def idxV (n : Int) (l : List V) : Int := if upTo n l < l.length then (upTo n l : Int) else -1
def slices_IndexFunc.f (x : List V × Int) : Option Int := if x.1.length ≤ 5864062014700 then some (idxV x.2 x.1) else none
theorem slices_IndexFunc (l : List V) (hl : l.length ≤ 5864062014700) (n : Int) : slices_IndexFunc.f (l, n) = some (idxV n l) := if_pos hl
theorem slices_IndexFunc_l (l : List V) (hl : l.length ≤ 5864062014700) (n : Int) : ∀ (m : List V) (k i : Nat), l.drop i = m → m.length < k → slices_IndexFunc.l0 k l n (l.length : Int) (i : Int) = some (if upTo n m < m.length then ((i + upTo n m : Nat) : Int) else -1)
 | [], k, i, hd, hk => by
  obtain ⟨k, rfl⟩ : ∃ m, k = m + 1 := ⟨k - 1, by omega⟩
  have := dropn hd
  rw [slices_IndexFunc.l0_eq, if_neg (by omega)]; rfl
 | v :: m, k, i, hd, hk => by
  obtain ⟨k, rfl⟩ : ∃ m, k = m + 1 := ⟨k - 1, by omega⟩
  obtain ⟨e1, e2, e3, e4⟩ := dropc hd
  have hk' : m.length < k := by simp at hk; omega
  have e5 : msg_With_1.f (v, n) = some (decide (v.1 > n)) := rfl
  rw [slices_IndexFunc.l0_eq, if_pos (by omega), e4, Option.bind_some, e5, Option.bind_some, wrap_succ (by omega), slices_IndexFunc_l l hl n m k (i + 1) e2 hk', upTo, List.length_cons]
  by_cases c : n < v.1
  ·rw [if_pos (decide_eq_true c), if_pos c, if_pos (by omega)]; rfl
  ·rw [if_neg (by simpa using c), if_neg c]
   by_cases c2 : upTo n m < m.length
   ·rw [if_pos c2, if_pos (by omega), show i + 1 + upTo n m = i + (upTo n m + 1) by omega]
   ·rw [if_neg c2, if_neg (by omega)]
noncomputable def slices_IndexFunc.c : Con := ⟨107, slices_IndexFunc.sg, slices_IndexFunc.rs, slices_IndexFunc.f⟩
theorem slices_IndexFunc.con : ConOk Tryz.prog slices_IndexFunc.c := walked (C := slices_IndexFunc.C) rfl (by kernel_rfl) (by kernel_rfl) (by kernel_rfl) rfl ⟨msg_With_1.con, trivial⟩ fun ⟨l, n⟩ y h => by
 have h : slices_IndexFunc.f (l, n) = some y := h
 unfold slices_IndexFunc.f at h
 split at h
 ·rename_i hc
  refine ⟨l.length + 1, ?_⟩
  have hr := slices_IndexFunc_l l hc n l (l.length + 1) 0 rfl (by omega)
  rw [Nat.zero_add] at hr
  rw [slices_IndexFunc.eq]
  exact hr.trans h
 ·cases h
theorem put_run {α : Type} (l : List α) (i : Nat) (hi : i ≤ l.length) (x z : α) : ((lcopy (List.replicate (l.length + 1) z) 0 (l.length + 1) (l.take i)).bind fun b => (lset b i x).bind fun c => (lcopy c (i + 1) (l.length + 1 - (i + 1)) (l.drop i)).bind fun d => lpart d 0 (l.length + 1)) = some (l.take i ++ [x] ++ l.drop i) := by
 have t1 : (l.take i).length = i := by rw [List.length_take]; omega
 have d1 : (l.drop i).length = l.length - i := List.length_drop ..
 unfold lcopy lset lpart
 rw [if_pos (by rw [List.length_replicate]; omega), Option.bind_some, List.take_zero, List.nil_append, List.take_of_length_le (by omega), Nat.zero_add, t1, List.drop_replicate, Nat.min_eq_left (by omega), show l.length + 1 - i = (l.length - i) + 1 by omega, List.replicate_succ]
 rw [if_pos (by rw [List.length_append, List.length_cons, List.length_replicate]; omega), Option.bind_some, List.set_append_right _ _ (by omega), t1, Nat.sub_self, List.set_cons_zero]
 rw [if_pos (by rw [List.length_append, List.length_cons, List.length_replicate]; omega), Option.bind_some]
 have e1 : (l.take i ++ x :: List.replicate (l.length - i) z).take (i + 1) = l.take i ++ [x] := by
  rw [show l.take i ++ x :: List.replicate (l.length - i) z = (l.take i ++ [x]) ++ List.replicate (l.length - i) z by simp, List.take_left' (by rw [List.length_append, t1]; rfl)]
 have e2 : (l.take i ++ x :: List.replicate (l.length - i) z).drop (i + 1 + min (l.drop i).length (l.length + 1 - (i + 1))) = [] := List.drop_of_length_le (by rw [List.length_append, List.length_cons, List.length_replicate, t1, d1]; omega)
 rw [e1, e2, List.append_nil, List.take_of_length_le (l := l.drop i) (by omega)]
 rw [if_pos (by rw [List.length_append, List.length_append, t1, d1, List.length_singleton]; omega), List.drop_zero, List.take_of_length_le (by rw [List.length_append, List.length_append, t1, d1, List.length_singleton]; omega)]
@[reducible] def msg_With.sg : List Shp := [.a (.pair (.str) (.sl zdE)), .v (.int .i64), .v (.str)]
@[reducible] def msg_With.rs : Rs := .one (.a (.pair (.str) (.sl zdE)))
@[reducible] noncomputable def msg_With.code : Code := Tryz.f62.body.getD .skip
noncomputable def msg_With.C : Ctx := ⟨tab, [msg_Without.c, slices_IndexFunc.c], [], ⟨[], []⟩⟩
theorem msg_With.eq (n : Nat) (a0 : ByteArray) (a1 : List zE) (a2 : Int) (a3 : ByteArray) : call msg_With.C Tryz.f62 msg_With.code msg_With.sg msg_With.rs n ((a0, a1), (a2, a3)) =
 ((msg_Without.f ((a0, a1), a2)).bind fun b0 =>
 ((slices_IndexFunc.f (b0.2, a2)).bind fun b1 =>
 (if b1 < 0 then (if 0 ≤ IntKind.wrap .i64 ((b0.2.length : Int) + 1) ∧ 24 * IntKind.wrap .i64 ((b0.2.length : Int) + 1) ≤ 281474976710656 then ((lsub b0.2 0 (b0.2.length : Int)).bind fun b2 =>
 ((lcopy (List.replicate (Int.toNat (IntKind.wrap .i64 ((b0.2.length : Int) + 1))) (0, ByteArray.mk #[])) 0 (Int.toNat (IntKind.wrap .i64 ((b0.2.length : Int) + 1))) b2).bind fun b3 =>
 (if 0 ≤ (b0.2.length : Int) ∧ (b0.2.length : Int) < (↑(Int.toNat (IntKind.wrap .i64 ((b0.2.length : Int) + 1))) : Int) then ((lset b3 (0 + Int.toNat (b0.2.length : Int)) (a2, a3)).bind fun b4 =>
 (if 0 ≤ IntKind.wrap .i64 ((b0.2.length : Int) + 1) ∧ IntKind.wrap .i64 ((b0.2.length : Int) + 1) ≤ (↑(Int.toNat (IntKind.wrap .i64 ((b0.2.length : Int) + 1))) : Int) ∧ (↑(Int.toNat (IntKind.wrap .i64 ((b0.2.length : Int) + 1))) : Int) ≤ (↑(Int.toNat (IntKind.wrap .i64 ((b0.2.length : Int) + 1))) : Int) then ((lsub b0.2 (b0.2.length : Int) (b0.2.length : Int)).bind fun b5 =>
 ((lcopy b4 (0 + Int.toNat (IntKind.wrap .i64 ((b0.2.length : Int) + 1))) (Int.toNat (↑(Int.toNat (IntKind.wrap .i64 ((b0.2.length : Int) + 1))) : Int) - Int.toNat (IntKind.wrap .i64 ((b0.2.length : Int) + 1))) b5).bind fun b6 =>
 ((lpart b6 0 (Int.toNat (IntKind.wrap .i64 ((b0.2.length : Int) + 1)))).bind fun b7 =>
 (some ((a0, b7))))))
 else none))
 else none)))
 else none)
 else (if 0 ≤ IntKind.wrap .i64 ((b0.2.length : Int) + 1) ∧ 24 * IntKind.wrap .i64 ((b0.2.length : Int) + 1) ≤ 281474976710656 then ((lsub b0.2 0 b1).bind fun b8 =>
 ((lcopy (List.replicate (Int.toNat (IntKind.wrap .i64 ((b0.2.length : Int) + 1))) (0, ByteArray.mk #[])) 0 (Int.toNat (IntKind.wrap .i64 ((b0.2.length : Int) + 1))) b8).bind fun b9 =>
 (if 0 ≤ b1 ∧ b1 < (↑(Int.toNat (IntKind.wrap .i64 ((b0.2.length : Int) + 1))) : Int) then ((lset b9 (0 + Int.toNat b1) (a2, a3)).bind fun b10 =>
 (if 0 ≤ IntKind.wrap .i64 (b1 + 1) ∧ IntKind.wrap .i64 (b1 + 1) ≤ (↑(Int.toNat (IntKind.wrap .i64 ((b0.2.length : Int) + 1))) : Int) ∧ (↑(Int.toNat (IntKind.wrap .i64 ((b0.2.length : Int) + 1))) : Int) ≤ (↑(Int.toNat (IntKind.wrap .i64 ((b0.2.length : Int) + 1))) : Int) then ((lsub b0.2 b1 (b0.2.length : Int)).bind fun b11 =>
 ((lcopy b10 (0 + Int.toNat (IntKind.wrap .i64 (b1 + 1))) (Int.toNat (↑(Int.toNat (IntKind.wrap .i64 ((b0.2.length : Int) + 1))) : Int) - Int.toNat (IntKind.wrap .i64 (b1 + 1))) b11).bind fun b12 =>
 ((lpart b12 0 (Int.toNat (IntKind.wrap .i64 ((b0.2.length : Int) + 1)))).bind fun b13 =>
 (some ((a0, b13))))))
 else none))
 else none)))
 else none)))) := by kernel_rfl
noncomputable def msg_With.f : El (sgTy msg_With.sg) → Option (El msg_With.rs.ty) := fun x => match x with
 | ((a0, a1), (a2, a3)) =>
 ((msg_Without.f ((a0, a1), a2)).bind fun b0 =>
 ((slices_IndexFunc.f (Prod.snd b0, a2)).bind fun b1 =>
 (if b1 < 0 then (if 0 ≤ IntKind.wrap IntKind.i64 ((↑(List.length (Prod.snd b0)) : Int) + 1) ∧ 24 * IntKind.wrap IntKind.i64 ((↑(List.length (Prod.snd b0)) : Int) + 1) ≤ 281474976710656 then ((lsub (Prod.snd b0) 0 (↑(List.length (Prod.snd b0)) : Int)).bind fun b2 =>
  ((lcopy (List.replicate (Int.toNat (IntKind.wrap IntKind.i64 ((↑(List.length (Prod.snd b0)) : Int) + 1))) (0, ByteArray.mk #[])) 0 (Int.toNat (IntKind.wrap IntKind.i64 ((↑(List.length (Prod.snd b0)) : Int) + 1))) b2).bind fun b3 =>
  (if 0 ≤ (↑(List.length (Prod.snd b0)) : Int) ∧ (↑(List.length (Prod.snd b0)) : Int) < (↑(Int.toNat (IntKind.wrap IntKind.i64 ((↑(List.length (Prod.snd b0)) : Int) + 1))) : Int) then ((lset b3 (0 + Int.toNat (↑(List.length (Prod.snd b0)) : Int)) (a2, a3)).bind fun b4 =>
   (if 0 ≤ IntKind.wrap IntKind.i64 ((↑(List.length (Prod.snd b0)) : Int) + 1) ∧ IntKind.wrap IntKind.i64 ((↑(List.length (Prod.snd b0)) : Int) + 1) ≤ (↑(Int.toNat (IntKind.wrap IntKind.i64 ((↑(List.length (Prod.snd b0)) : Int) + 1))) : Int) ∧ (↑(Int.toNat (IntKind.wrap IntKind.i64 ((↑(List.length (Prod.snd b0)) : Int) + 1))) : Int) ≤ (↑(Int.toNat (IntKind.wrap IntKind.i64 ((↑(List.length (Prod.snd b0)) : Int) + 1))) : Int) then ((lsub (Prod.snd b0) (↑(List.length (Prod.snd b0)) : Int) (↑(List.length (Prod.snd b0)) : Int)).bind fun b5 =>
   ((lcopy b4 (0 + Int.toNat (IntKind.wrap IntKind.i64 ((↑(List.length (Prod.snd b0)) : Int) + 1))) (Int.toNat (↑(Int.toNat (IntKind.wrap IntKind.i64 ((↑(List.length (Prod.snd b0)) : Int) + 1))) : Int) - Int.toNat (IntKind.wrap IntKind.i64 ((↑(List.length (Prod.snd b0)) : Int) + 1))) b5).bind fun b6 =>
   ((lpart b6 0 (Int.toNat (IntKind.wrap IntKind.i64 ((↑(List.length (Prod.snd b0)) : Int) + 1)))).bind fun b7 =>
   (some ((a0, b7))))))
   else none))
  else none)))
  else none)
 else (if 0 ≤ IntKind.wrap IntKind.i64 ((↑(List.length (Prod.snd b0)) : Int) + 1) ∧ 24 * IntKind.wrap IntKind.i64 ((↑(List.length (Prod.snd b0)) : Int) + 1) ≤ 281474976710656 then ((lsub (Prod.snd b0) 0 b1).bind fun b8 =>
  ((lcopy (List.replicate (Int.toNat (IntKind.wrap IntKind.i64 ((↑(List.length (Prod.snd b0)) : Int) + 1))) (0, ByteArray.mk #[])) 0 (Int.toNat (IntKind.wrap IntKind.i64 ((↑(List.length (Prod.snd b0)) : Int) + 1))) b8).bind fun b9 =>
  (if 0 ≤ b1 ∧ b1 < (↑(Int.toNat (IntKind.wrap IntKind.i64 ((↑(List.length (Prod.snd b0)) : Int) + 1))) : Int) then ((lset b9 (0 + Int.toNat b1) (a2, a3)).bind fun b10 =>
   (if 0 ≤ IntKind.wrap IntKind.i64 (b1 + 1) ∧ IntKind.wrap IntKind.i64 (b1 + 1) ≤ (↑(Int.toNat (IntKind.wrap IntKind.i64 ((↑(List.length (Prod.snd b0)) : Int) + 1))) : Int) ∧ (↑(Int.toNat (IntKind.wrap IntKind.i64 ((↑(List.length (Prod.snd b0)) : Int) + 1))) : Int) ≤ (↑(Int.toNat (IntKind.wrap IntKind.i64 ((↑(List.length (Prod.snd b0)) : Int) + 1))) : Int) then ((lsub (Prod.snd b0) b1 (↑(List.length (Prod.snd b0)) : Int)).bind fun b11 =>
   ((lcopy b10 (0 + Int.toNat (IntKind.wrap IntKind.i64 (b1 + 1))) (Int.toNat (↑(Int.toNat (IntKind.wrap IntKind.i64 ((↑(List.length (Prod.snd b0)) : Int) + 1))) : Int) - Int.toNat (IntKind.wrap IntKind.i64 (b1 + 1))) b11).bind fun b12 =>
   ((lpart b12 0 (Int.toNat (IntKind.wrap IntKind.i64 ((↑(List.length (Prod.snd b0)) : Int) + 1)))).bind fun b13 =>
   (some ((a0, b13))))))
   else none))
  else none)))
  else none))))
noncomputable def msg_With.c : Con := ⟨62, msg_With.sg, msg_With.rs, msg_With.f⟩
theorem msg_With.con : ConOk Tryz.prog msg_With.c := walked (C := msg_With.C) rfl (by kernel_rfl) (by kernel_rfl) (by kernel_rfl) rfl ⟨msg_Without.con, slices_IndexFunc.con, trivial⟩ fun ⟨⟨a0, a1⟩, ⟨a2, a3⟩⟩ y h => ⟨0, (msg_With.eq 0 a0 a1 a2 a3).trans h⟩
theorem msg_With (t : ByteArray) (l : List V) (hl : l.length ≤ 5864062014700) (n : Int) (x : ByteArray) : msg_With.f ((t, l), n, x) = some (t, withV n x l) := by
 have hw := without_length n l
 have e0 := insV_cut n x (without n l)
 unfold withV
 simp only [msg_With.f]
 rw [msg_Without t l hl, Option.bind_some]
 dsimp only
 generalize without n l = w at *
 have hu := upTo_le n w
 rw [slices_IndexFunc w (by omega), Option.bind_some]
 have w1 : IntKind.wrap .i64 ((w.length : Int) + 1) = ((w.length + 1 : Nat) : Int) := by rw [wrap_id (by omega) (by omega)]; omega
 simp only [w1, Int.toNat_natCast, Nat.zero_add]
 unfold idxV
 by_cases c : upTo n w < w.length
 ·have w2 : IntKind.wrap .i64 ((upTo n w : Int) + 1) = ((upTo n w + 1 : Nat) : Int) := by rw [wrap_id (by omega) (by omega)]; omega
  simp only [if_pos c, w2, Int.toNat_natCast]
  have l1 : lsub w 0 (upTo n w : Int) = some (w.take (upTo n w)) := by
   unfold lsub
   rw [if_pos (by omega)]; rfl
  have l2 : lsub w (upTo n w : Int) (w.length : Int) = some (w.drop (upTo n w)) := by
   unfold lsub
   rw [if_pos (by omega), Int.toNat_natCast, Int.toNat_natCast, List.take_length]
  have p := put_run w (upTo n w) hu (n, x) ((0 : Int), (ByteArray.mk #[]))
  rw [if_neg (by omega), if_pos (by omega), l1, Option.bind_some, l2]
  rw [← e0] at p
  obtain ⟨b1, q1, p⟩ := Option.bind_eq_some_iff.1 p
  obtain ⟨b2, q2, p⟩ := Option.bind_eq_some_iff.1 p
  obtain ⟨b3, q3, p⟩ := Option.bind_eq_some_iff.1 p
  rw [q1, Option.bind_some, if_pos (by omega), q2, Option.bind_some, if_pos (by omega), Option.bind_some, q3, Option.bind_some, p, Option.bind_some]
 ·have hu2 : upTo n w = w.length := by omega
  simp only [if_neg c]
  have l1 : lsub w 0 (w.length : Int) = some (w.take (upTo n w)) := by
   unfold lsub
   rw [if_pos (by omega), hu2]; rfl
  have l2 : lsub w (w.length : Int) (w.length : Int) = some (w.drop (upTo n w)) := by
   unfold lsub
   rw [if_pos (by omega), hu2, Int.toNat_natCast, List.take_length]
  have p := put_run w (upTo n w) hu (n, x) ((0 : Int), (ByteArray.mk #[]))
  rw [if_pos (by decide), if_pos (by omega), l1, Option.bind_some, l2]
  rw [← e0] at p
  obtain ⟨b1, q1, p⟩ := Option.bind_eq_some_iff.1 p
  obtain ⟨b2, q2, p⟩ := Option.bind_eq_some_iff.1 p
  obtain ⟨b3, q3, p⟩ := Option.bind_eq_some_iff.1 p
  rw [hu2] at q2 q3
  rw [q1, Option.bind_some, if_pos (by omega), q2, hu2, Option.bind_some, if_pos (by omega), Option.bind_some, q3, Option.bind_some, p, Option.bind_some]
@[reducible] def mti_Request.sg : List Shp := [.v (.str)]
@[reducible] def mti_Request.rs : Rs := .one (.v (.bool))
@[reducible] noncomputable def mti_Request.code : Code := Tryz.f132.body.getD .skip
noncomputable def mti_Request.C : Ctx := ⟨tab, [mti_Right.c], [], ⟨[], []⟩⟩
theorem mti_Request.eq (n : Nat) (a0 : ByteArray) : call mti_Request.C Tryz.f132 mti_Request.code mti_Request.sg mti_Request.rs n a0 =
 ((mti_Right.f a0).bind fun b0 =>
 (if b0 = true then ((bget a0 2).bind fun b1 =>
 (if (↑(UInt8.toNat b1) : Int) = 48 then (some true)
 else ((bget a0 2).bind fun b2 =>
 (some (decide ((↑(UInt8.toNat b2) : Int) = 50))))))
 else (some false))) := by kernel_rfl
noncomputable def mti_Request.f : El (sgTy mti_Request.sg) → Option (El mti_Request.rs.ty) := fun x => match x with
 | a0 =>
 ((mti_Right.f a0).bind fun b0 =>
 (if b0 = true then ((bget a0 2).bind fun b1 =>
  (if (↑(UInt8.toNat b1) : Int) = 48 then (some true)
  else ((bget a0 2).bind fun b2 =>
  (some (decide ((↑(UInt8.toNat b2) : Int) = 50))))))
 else (some false)))
noncomputable def mti_Request.c : Con := ⟨132, mti_Request.sg, mti_Request.rs, mti_Request.f⟩
theorem mti_Request.con : ConOk Tryz.prog mti_Request.c := walked (C := mti_Request.C) rfl (by kernel_rfl) (by kernel_rfl) (by kernel_rfl) rfl ⟨mti_Right.con, trivial⟩ fun a0 y h => ⟨0, (mti_Request.eq 0 a0).trans h⟩
theorem mti_Request (t : List UInt8) : mti_Request.f (sb t) = some (asks t) := by
 simp only [mti_Request.f]
 rw [mti_Right, Option.bind_some]
 by_cases h : right t = true
 ·obtain ⟨a, b, c, d, rfl, -⟩ := four h
  have g : bget (sb [a, b, c, d]) 2 = some c := rfl
  rw [if_pos h, g, Option.bind_some, Option.bind_some]
  unfold asks
  rw [h, Bool.true_and]
  show (if (c.toNat : Int) = 48 then some true else some (decide ((c.toNat : Int) = 50))) = some (decide (c.toNat = 48) || decide (c.toNat = 50))
  by_cases h1 : c.toNat = 48
  ·rw [if_pos (by omega), decide_eq_true h1]; rfl
  ·rw [if_neg (by omega), decide_eq_false h1, Bool.false_or]
   congr 1
   exact decide_eq_decide.2 (by omega)
 ·rw [if_neg h]
  unfold asks
  rw [Bool.eq_false_iff.2 h]; rfl
@[reducible] def mti_Response.sg : List Shp := [.v (.str)]
@[reducible] def mti_Response.rs : Rs := .tup [.v (.str), .v (.bool)]
@[reducible] noncomputable def mti_Response.code : Code := Tryz.f116.body.getD .skip
noncomputable def mti_Response.C : Ctx := ⟨tab, [mti_Request.c], [], ⟨[], []⟩⟩
theorem mti_Response.eq (n : Nat) (a0 : ByteArray) : call mti_Response.C Tryz.f116 mti_Response.code mti_Response.sg mti_Response.rs n a0 =
 ((mti_Request.f a0).bind fun b0 =>
 (if ¬b0 = true then (some ((ByteArray.mk #[], false)))
 else ((ssub a0 0 2).bind fun b1 =>
 ((bget a0 2).bind fun b2 =>
 ((scat b1 (bytesOf [IntKind.wrap .u8 ((↑(UInt8.toNat b2) : Int) + 1)])).bind fun b3 =>
 ((ssub a0 3 (a0.size : Int)).bind fun b4 =>
 ((scat b3 b4).bind fun b5 =>
 (some ((b5, true)))))))))) := by kernel_rfl
noncomputable def mti_Response.f : El (sgTy mti_Response.sg) → Option (El mti_Response.rs.ty) := fun x => match x with
 | a0 =>
 ((mti_Request.f a0).bind fun b0 =>
 (if ¬b0 = true then (some ((ByteArray.mk #[], false)))
 else ((ssub a0 0 2).bind fun b1 =>
  ((bget a0 2).bind fun b2 =>
  ((scat b1 (bytesOf [IntKind.wrap IntKind.u8 ((↑(UInt8.toNat b2) : Int) + 1)])).bind fun b3 =>
  ((ssub a0 3 (↑(ByteArray.size a0) : Int)).bind fun b4 =>
  ((scat b3 b4).bind fun b5 =>
  (some ((b5, true))))))))))
noncomputable def mti_Response.c : Con := ⟨116, mti_Response.sg, mti_Response.rs, mti_Response.f⟩
theorem mti_Response.con : ConOk Tryz.prog mti_Response.c := walked (C := mti_Response.C) rfl (by kernel_rfl) (by kernel_rfl) (by kernel_rfl) rfl ⟨mti_Request.con, trivial⟩ fun a0 y h => ⟨0, (mti_Response.eq 0 a0).trans h⟩
theorem mti_Response (t : List UInt8) : mti_Response.f (sb t) = some (if asks t = true then (sb (answer t), true) else (sb [], false)) := by
 simp only [mti_Response.f]
 rw [mti_Request, Option.bind_some]
 by_cases h : asks t = true
 ·obtain ⟨a, b, c, d, rfl, -, -, -, -, hc⟩ := asks_four h
  have g : bget (sb [a, b, c, d]) 2 = some c := rfl
  have w : IntKind.wrap .u8 ((c.toNat : Int) + 1) = ((c.toNat + 1 : Nat) : Int) := by
   show (if (false && decide (((c.toNat : Int) + 1) % 256 ≥ 128)) = true then ((c.toNat : Int) + 1) % 256 - 256 else ((c.toNat : Int) + 1) % 256) = _
   simp only [Bool.false_and, Bool.false_eq_true, if_false]; omega
  have s1 : ssub (sb [a, b, c, d]) 0 2 = some (sb [a, b]) := rfl
  have s2 : ssub (sb [a, b, c, d]) 3 ((sb [a, b, c, d]).size : Int) = some (sb [d]) := rfl
  rw [if_neg (not_not_intro h), s1, Option.bind_some, g, Option.bind_some, w, strOne, scat_sb _ _ (by simp), Option.bind_some, s2, Option.bind_some, scat_sb _ _ (by simp), Option.bind_some, if_pos h]
  rfl
 ·rw [if_pos h, if_neg h]; rfl
@[reducible] def reject_Build.sg : List Shp := [.a zdK, .a (.pair (.str) (.sl zdE)), .a (.pair (.int .i64) (.int .i64))]
@[reducible] def reject_Build.rs : Rs := .tup [.a (.pair (.str) (.sl zdE)), .v (.bool)]
@[reducible] noncomputable def reject_Build.code : Code := Tryz.f77.body.getD .skip
noncomputable def reject_Build.C : Ctx := ⟨tab, [msg_With.c, mti_Response.c, msg_Get.c, reject_Code.c], [], ⟨[(6, [3, 4, 5, 6, 10, 27, 28, 29], 5)], []⟩⟩
noncomputable def reject_Build.l0 (n : Nat) (v0 : List Int) (v1 v2 v3 v4 : Int) (v5 : List z5) (v6 : List zP) (v7 : List zR) (v8 : List Int) (v9 : List zE) (v10 : ByteArray) (v11 : List zE) (v12 v13 : Int) (v14 v15 : ByteArray) : Option (((ByteArray × List ((Int × ByteArray))) × Bool)) := run reject_Build.C (finOf reject_Build.C Tryz.f77 reject_Build.rs) n (todoAt 6 reject_Build.code) ⟨zJ :: zJ :: zJ :: .ptr 0 0 :: .ptr 1 0 :: .ptr 2 0 :: .ptr 3 0 :: zJ :: zJ :: zJ :: .ptr 4 0 :: zK (zK (.sl none (.int .i64) v0 :: .int .i64 v1 :: .int .i64 v2 :: zJ :: zJ :: zJ :: zJ :: zJ :: zK (zK []))), [[.int .i64 v3, .int .i64 v4, .sl none zd5 v5, .sl none zdP v6, .sl none zdR v7, .sl none (.int .i64) v8, .sl none zdE v9], [.str v10, .sl none zdE v11], [.int .i64 v12, .int .i64 v13], [.str v14, .nilsl], [.str v15, .nilsl]], []⟩
noncomputable def reject_Build.l1 (n : Nat) (v0 : List Int) (v1 v2 v3 v4 : Int) (v5 : List z5) (v6 : List zP) (v7 : List zR) (v8 : List Int) (v9 : List zE) (v10 : ByteArray) (v11 : List zE) (v12 v13 : Int) (v14 v15 : ByteArray) (v16 : List zE) : Option (((ByteArray × List ((Int × ByteArray))) × Bool)) := run reject_Build.C (finOf reject_Build.C Tryz.f77 reject_Build.rs) n (todoAt 6 reject_Build.code) ⟨zJ :: zJ :: zJ :: .ptr 0 0 :: .ptr 1 0 :: .ptr 2 0 :: .ptr 3 0 :: zJ :: zJ :: zJ :: .ptr 4 0 :: zK (zK (.sl none (.int .i64) v0 :: .int .i64 v1 :: .int .i64 v2 :: zJ :: zJ :: zJ :: zJ :: zJ :: zK (zK []))), [[.int .i64 v3, .int .i64 v4, .sl none zd5 v5, .sl none zdP v6, .sl none zdR v7, .sl none (.int .i64) v8, .sl none zdE v9], [.str v10, .sl none zdE v11], [.int .i64 v12, .int .i64 v13], [.str v14, .nilsl], [.str v15, .sl none zdE v16]], []⟩
theorem reject_Build.l0_eq n v0 v1 v2 v3 v4 v5 v6 v7 v8 v9 v10 v11 v12 v13 v14 v15 : reject_Build.l0 (n + 1) v0 v1 v2 v3 v4 v5 v6 v7 v8 v9 v10 v11 v12 v13 v14 v15 =
 (if v2 < v1 then ((lget v0 v2).bind fun b1 =>
 ((msg_Get.f ((v10, v11), b1)).bind fun b2 =>
 (if b2.2 = true then ((msg_With.f ((v15, []), b1, b2.1)).bind fun b3 =>
 (reject_Build.l1 n v0 v1 (IntKind.wrap .i64 (v2 + 1)) v3 v4 v5 v6 v7 v8 v9 v10 v11 v12 v13 v14 b3.1 b3.2))
 else (reject_Build.l0 n v0 v1 (IntKind.wrap .i64 (v2 + 1)) v3 v4 v5 v6 v7 v8 v9 v10 v11 v12 v13 v14 v15))))
 else ((reject_Code.f (((v3, v4, v5), (v6, v7), v8, v9), v12)).bind fun b4 =>
 ((msg_With.f ((v15, []), 39, b4)).bind fun b5 =>
 (some ((b5, true)))))) := by kernel_rfl
theorem reject_Build.l1_eq n v0 v1 v2 v3 v4 v5 v6 v7 v8 v9 v10 v11 v12 v13 v14 v15 v16 : reject_Build.l1 (n + 1) v0 v1 v2 v3 v4 v5 v6 v7 v8 v9 v10 v11 v12 v13 v14 v15 v16 =
 (if v2 < v1 then ((lget v0 v2).bind fun b6 =>
 ((msg_Get.f ((v10, v11), b6)).bind fun b7 =>
 (if b7.2 = true then ((msg_With.f ((v15, v16), b6, b7.1)).bind fun b8 =>
 (reject_Build.l1 n v0 v1 (IntKind.wrap .i64 (v2 + 1)) v3 v4 v5 v6 v7 v8 v9 v10 v11 v12 v13 v14 b8.1 b8.2))
 else (reject_Build.l1 n v0 v1 (IntKind.wrap .i64 (v2 + 1)) v3 v4 v5 v6 v7 v8 v9 v10 v11 v12 v13 v14 v15 v16))))
 else ((reject_Code.f (((v3, v4, v5), (v6, v7), v8, v9), v12)).bind fun b9 =>
 ((msg_With.f ((v15, v16), 39, b9)).bind fun b10 =>
 (some ((b10, true)))))) := by kernel_rfl
theorem reject_Build.eq (n : Nat) (a0 a1 : Int) (a2 : List z5) (a3 : List zP) (a4 : List zR) (a5 : List Int) (a6 : List zE) (a7 : ByteArray) (a8 : List zE) (a9 a10 : Int) : call reject_Build.C Tryz.f77 reject_Build.code reject_Build.sg reject_Build.rs n (((a0, (a1, a2)), ((a3, a4), (a5, a6))), ((a7, a8), (a9, a10))) =
 ((mti_Response.f a7).bind fun b0 =>
 (if ¬b0.2 = true then (some (((ByteArray.mk #[], []), false)))
 else (reject_Build.l0 n a5 (a5.length : Int) 0 a0 a1 a2 a3 a4 a5 a6 a7 a8 a9 a10 (ByteArray.mk #[]) b0.1))) := by kernel_rfl
def reject_Build.f (x : RJ × (ByteArray × List V) × Int × Int) : Option ((ByteArray × List V) × Bool) := if x.1.2.2.1.length ≤ 17592186044416 ∧ x.1.2.2.2.length ≤ 5864062014700 ∧ x.2.1.2.length ≤ 5864062014690 then some (rejB x.1 (bl x.2.1.1) x.2.1.2 x.2.2.1) else none
theorem withV_length' (n : Int) (x : ByteArray) (l : List V) : (withV n x l).length ≤ l.length + 1 := by
 unfold withV
 rw [insV_cut, List.length_append, List.length_append, List.length_take, List.length_drop, List.length_singleton]
 have := without_length n l
 omega
theorem reject_Build_l1 (q1 q2 : Int) (s : List S5) (c1 : List (ByteArray × ByteArray)) (c2 : List (Int × Int × Int × ByteArray × List (ByteArray × ByteArray))) (e : List Int) (he : e.length ≤ 17592186044416) (l : List V) (hl : l.length ≤ 5864062014700) (t u v : ByteArray) (g : List V) (hg : g.length ≤ 5864062014690) (y z : Int) :
  ∀ (m : List Int) (o : List V) (k i : Nat), e.drop i = m → Own g o → m.length < k →
  reject_Build.l1 k e (e.length : Int) (i : Int) q1 q2 s c1 c2 e l t g y z v u o = some ((u, withV 39 (codeV y l) (echoed g m o)), true)
 | [], o, k, i, hd, ho, hk => by
  obtain ⟨k, rfl⟩ : ∃ m, k = m + 1 := ⟨k - 1, by omega⟩
  have := dropn hd
  have ho' := ho.len
  rw [reject_Build.l1_eq, if_neg (by omega), reject_Code (q1, q2, s) (c1, c2) e l hl y, Option.bind_some, msg_With u o (by omega), Option.bind_some]; rfl
 | x :: m, o, k, i, hd, ho, hk => by
  obtain ⟨k, rfl⟩ : ∃ m, k = m + 1 := ⟨k - 1, by omega⟩
  obtain ⟨h1, h2, h3, h4⟩ := dropc hd
  have hk' : m.length < k := by simp at hk; omega
  have ho' := ho.len
  rw [reject_Build.l1_eq, if_pos (by omega), h4, Option.bind_some, msg_Get t g (by omega), Option.bind_some, wrap_succ (by omega), echoed]
  by_cases c : (getV x g).2 = true
  ·have hx : x ∈ g.map Prod.fst := List.mem_map.2 ⟨_, getV_mem x c, rfl⟩
   rw [if_pos c, if_pos c, msg_With u o (by omega), Option.bind_some]
   exact reject_Build_l1 q1 q2 s c1 c2 e he l hl t u v g hg y z m _ k (i + 1) h2 (ho.withV _ hx) hk'
  ·rw [if_neg c, if_neg c]
   exact reject_Build_l1 q1 q2 s c1 c2 e he l hl t u v g hg y z m o k (i + 1) h2 ho hk'
theorem reject_Build_l0 (q1 q2 : Int) (s : List S5) (c1 : List (ByteArray × ByteArray)) (c2 : List (Int × Int × Int × ByteArray × List (ByteArray × ByteArray))) (e : List Int) (he : e.length ≤ 17592186044416) (l : List V) (hl : l.length ≤ 5864062014700) (t u v : ByteArray) (g : List V) (hg : g.length ≤ 5864062014690) (y z : Int) :
  ∀ (m : List Int) (k i : Nat), e.drop i = m → m.length < k →
  reject_Build.l0 k e (e.length : Int) (i : Int) q1 q2 s c1 c2 e l t g y z v u = some ((u, withV 39 (codeV y l) (echoed g m [])), true)
 | [], k, i, hd, hk => by
  obtain ⟨k, rfl⟩ : ∃ m, k = m + 1 := ⟨k - 1, by omega⟩
  have := dropn hd
  rw [reject_Build.l0_eq, if_neg (by omega), reject_Code (q1, q2, s) (c1, c2) e l hl y, Option.bind_some, msg_With u [] (by decide), Option.bind_some]; rfl
 | x :: m, k, i, hd, hk => by
  obtain ⟨k, rfl⟩ : ∃ m, k = m + 1 := ⟨k - 1, by omega⟩
  obtain ⟨h1, h2, h3, h4⟩ := dropc hd
  have hk' : m.length < k := by simp at hk; omega
  rw [reject_Build.l0_eq, if_pos (by omega), h4, Option.bind_some, msg_Get t g (by omega), Option.bind_some, wrap_succ (by omega), echoed]
  by_cases c : (getV x g).2 = true
  ·have hx : x ∈ g.map Prod.fst := List.mem_map.2 ⟨_, getV_mem x c, rfl⟩
   rw [if_pos c, if_pos c, msg_With u [] (by decide), Option.bind_some]
   exact reject_Build_l1 q1 q2 s c1 c2 e he l hl t u v g hg y z m _ k (i + 1) h2 ((Own.nil g).withV _ hx) hk'
  ·rw [if_neg c, if_neg c]
   exact reject_Build_l0 q1 q2 s c1 c2 e he l hl t u v g hg y z m k (i + 1) h2 hk'
theorem reject_Build (s : Int × Int × List S5) (c : RC) (e : List Int) (he : e.length ≤ 17592186044416) (l : List V) (hl : l.length ≤ 5864062014700) (t : List UInt8) (g : List V) (hg : g.length ≤ 5864062014690) (y z : Int) : reject_Build.f ((s, c, e, l), (sb t, g), y, z) = some (rejB (s, c, e, l) t g y) := if_pos ⟨he, hl, hg⟩
noncomputable def reject_Build.c : Con := ⟨77, reject_Build.sg, reject_Build.rs, reject_Build.f⟩
theorem reject_Build.con : ConOk Tryz.prog reject_Build.c := walked (C := reject_Build.C) rfl (by kernel_rfl) (by kernel_rfl) (by kernel_rfl) rfl ⟨msg_With.con, mti_Response.con, msg_Get.con, reject_Code.con, trivial⟩ fun ⟨⟨⟨q1, q2, s⟩, ⟨c1, c2⟩, e, l⟩, ⟨t, g⟩, y, z⟩ r h => by
 obtain ⟨t, rfl⟩ := ex_sb t
 have h : reject_Build.f (((q1, q2, s), (c1, c2), e, l), (sb t, g), y, z) = some r := h
 unfold reject_Build.f at h
 split at h
 ·rename_i hc
  obtain ⟨he, hl, hg⟩ := hc
  refine ⟨List.length (α := Int) e + 1, ?_⟩
  rw [reject_Build.eq, mti_Response, Option.bind_some, ← h]
  show _ = some (rejB ((q1, q2, s), (c1, c2), e, l) t g y)
  unfold rejB
  by_cases c : asks t = true
  ·rw [if_pos c, if_pos c, if_neg (fun q => q rfl)]
   exact reject_Build_l0 q1 q2 s c1 c2 e he l hl (sb t) (sb (answer t)) (ByteArray.mk #[]) g hg y z e _ 0 rfl (by omega)
  ·rw [if_neg c, if_neg c, if_pos (fun q => by cases q)]; rfl
 ·cases h
@[reducible] def codes_Check.sg : List Shp := [.v (.sl zdP)]
@[reducible] def codes_Check.rs : Rs := .tup [.v (.int .i64), .v (.int .i64)]
@[reducible] noncomputable def codes_Check.code : Code := Tryz.f104.body.getD .skip
noncomputable def codes_Check.C : Ctx := ⟨tab, [], [], ⟨[(5, [4, 11, 12, 13], 1)], []⟩⟩
noncomputable def codes_Check.l0 (n : Nat) (v0 : List zP) (v1 v2 : Int) (v3 : List ByteArray) : Option ((Int × Int)) := run codes_Check.C (finOf codes_Check.C Tryz.f104 codes_Check.rs) n (todoAt 5 codes_Check.code) ⟨zJ :: zJ :: zJ :: zJ :: .mp 0 :: zJ :: zJ :: zJ :: zJ :: zJ :: zJ :: .sl none zdP v0 :: .int .i64 v1 :: .int .i64 v2 :: zJ :: zJ :: zJ :: zJ :: zJ :: zK [], [[.keys 9 4 (.str) v3]], []⟩
theorem codes_Check.l0_eq n v0 v1 v2 v3 : codes_Check.l0 (n + 1) v0 v1 v2 v3 =
 (if v2 < v1 then ((lget v0 v2).bind fun b0 =>
 (if ByteArray.size b0.1 ≤ 9223372036854775807 then (if b0.1 ∈ v3 then (some ((10, v2)))
 else (if ByteArray.size b0.1 ≤ 9223372036854775807 ∧ List.length v3 < 9223372036854775807 then (codes_Check.l0 n v0 v1 (IntKind.wrap .i64 (v2 + 1)) (v3 ++ [b0.1]))
 else none))
 else none))
 else (some ((0, 0)))) := by kernel_rfl
theorem codes_Check.eq (n : Nat) (a0 : List zP) : call codes_Check.C Tryz.f104 codes_Check.code codes_Check.sg codes_Check.rs n a0 =
 (if (a0.length : Int) > 256 then (some ((5, 256)))
 else (codes_Check.l0 n a0 (a0.length : Int) 0 [])) := by kernel_rfl
def okP (l : List PB) : Prop := l.length ≤ 100000 ∧ ∀ p ∈ l, p.1.size ≤ 1000000000000 ∧ p.2.size ≤ 1000000000000
instance (l : List PB) : Decidable (okP l) := by unfold okP; infer_instance
noncomputable def codes_Check.f (l : List PB) : Option (Int × Int) := if okP l then some (pairsE l) else none
theorem codes_Check (l : List PB) (hl : okP l) : codes_Check.f l = some (pairsE l) := if_pos hl
theorem codes_Check_l (l : List PB) (hl : okP l) : ∀ (m : List PB) (seen : List ByteArray) (k i : Nat), l.drop i = m → seen.length ≤ i → m.length < k → codes_Check.l0 k l (l.length : Int) (i : Int) seen = some (pairsL m seen i)
 | [], seen, k, i, hd, hs, hk => by
  obtain ⟨k, rfl⟩ : ∃ m, k = m + 1 := ⟨k - 1, by omega⟩
  have := dropn hd
  rw [codes_Check.l0_eq, if_neg (by omega)]; rfl
 | p :: m, seen, k, i, hd, hs, hk => by
  obtain ⟨k, rfl⟩ : ∃ m, k = m + 1 := ⟨k - 1, by omega⟩
  obtain ⟨h1, h2, h3, h4⟩ := dropc hd
  have hk' : m.length < k := by simp at hk; omega
  have hl1 := hl.1
  have hp := (hl.2 p (by have := List.drop_subset i l (a := p); rw [hd] at this; exact this (List.mem_cons_self ..))).1
  rw [codes_Check.l0_eq, if_pos (by omega), h4, Option.bind_some, if_pos (by omega), if_pos (⟨by omega, by omega⟩ : p.1.size ≤ 9223372036854775807 ∧ seen.length < 9223372036854775807), wrap_succ (by omega), codes_Check_l l hl m _ k (i + 1) h2 (by rw [List.length_append, List.length_singleton]; omega) hk', pairsL]
  split <;> rfl
noncomputable def codes_Check.c : Con := ⟨104, codes_Check.sg, codes_Check.rs, codes_Check.f⟩
theorem codes_Check.con : ConOk Tryz.prog codes_Check.c := walked (C := codes_Check.C) rfl (by kernel_rfl) (by kernel_rfl) (by kernel_rfl) rfl trivial fun l y h => by
 have h : codes_Check.f l = some y := h
 unfold codes_Check.f at h
 split at h
 ·rename_i hc
  refine ⟨l.length + 1, ?_⟩
  rw [codes_Check.eq, ← h, pairsE]
  by_cases c : 256 < l.length
  ·rw [if_pos c, if_pos (by omega)]
  ·rw [if_neg c, if_neg (by omega)]
   exact codes_Check_l l hc l [] _ 0 rfl (by simp) (by omega)
 ·cases h
@[reducible] def codes_Apply.sg : List Shp := [.v (.sl zdP), .v (.str)]
@[reducible] def codes_Apply.rs : Rs := .tup [.v (.str), .v (.bool)]
@[reducible] noncomputable def codes_Apply.code : Code := Tryz.f110.body.getD .skip
noncomputable def codes_Apply.C : Ctx := ⟨tab, [], [], ⟨[(2, [1, 8, 9, 10], 0)], []⟩⟩
noncomputable def codes_Apply.l0 (n : Nat) (v0 : ByteArray) (v1 : List zP) (v2 v3 : Int) : Option ((ByteArray × Bool)) := run codes_Apply.C (finOf codes_Apply.C Tryz.f110 codes_Apply.rs) n (todoAt 2 codes_Apply.code) ⟨zJ :: .str v0 :: zJ :: zJ :: zJ :: zJ :: zJ :: zJ :: .sl none zdP v1 :: .int .i64 v2 :: .int .i64 v3 :: zJ :: zJ :: zK [], [], []⟩
theorem codes_Apply.l0_eq n v0 v1 v2 v3 : codes_Apply.l0 (n + 1) v0 v1 v2 v3 =
 (if v3 < v2 then ((lget v1 v3).bind fun b0 =>
 (if b0.1 = v0 then (some ((b0.2, true)))
 else (codes_Apply.l0 n v0 v1 v2 (IntKind.wrap .i64 (v3 + 1)))))
 else (some ((ByteArray.mk #[], false)))) := by kernel_rfl
theorem codes_Apply.eq (n : Nat) (a0 : List zP) (a1 : ByteArray) : call codes_Apply.C Tryz.f110 codes_Apply.code codes_Apply.sg codes_Apply.rs n (a0, a1) =
 (codes_Apply.l0 n a1 a0 (a0.length : Int) 0) := by kernel_rfl
noncomputable def codes_Apply.f (x : List PB × ByteArray) : Option (ByteArray × Bool) := if okP x.1 then some (applyP x.2 x.1) else none
theorem codes_Apply (l : List PB) (hl : okP l) (t : ByteArray) : codes_Apply.f (l, t) = some (applyP t l) := if_pos hl
theorem codes_Apply_l (l : List PB) (hl : okP l) (t : ByteArray) : ∀ (m : List PB) (k i : Nat), l.drop i = m → m.length < k → codes_Apply.l0 k t l (l.length : Int) (i : Int) = some (applyP t m)
 | [], k, i, hd, hk => by
  obtain ⟨k, rfl⟩ : ∃ m, k = m + 1 := ⟨k - 1, by omega⟩
  have := dropn hd
  rw [codes_Apply.l0_eq, if_neg (by omega)]; rfl
 | p :: m, k, i, hd, hk => by
  obtain ⟨k, rfl⟩ : ∃ m, k = m + 1 := ⟨k - 1, by omega⟩
  obtain ⟨h1, h2, h3, h4⟩ := dropc hd
  have hk' : m.length < k := by simp at hk; omega
  have hl1 := hl.1
  rw [codes_Apply.l0_eq, if_pos (by omega), h4, Option.bind_some, wrap_succ (by omega), codes_Apply_l l hl t m k (i + 1) h2 hk', applyP]
  split <;> rfl
noncomputable def codes_Apply.c : Con := ⟨110, codes_Apply.sg, codes_Apply.rs, codes_Apply.f⟩
theorem codes_Apply.con : ConOk Tryz.prog codes_Apply.c := walked (C := codes_Apply.C) rfl (by kernel_rfl) (by kernel_rfl) (by kernel_rfl) rfl trivial fun ⟨l, t⟩ y h => by
 have h : codes_Apply.f (l, t) = some y := h
 unfold codes_Apply.f at h
 split at h
 ·rename_i hc
  exact ⟨l.length + 1, by rw [codes_Apply.eq, ← h]; exact codes_Apply_l l hc t l _ 0 rfl (by omega)⟩
 ·cases h
@[reducible] def class_Wider.sg : List Shp := [.v (.int .i64), .v (.int .i64)]
@[reducible] def class_Wider.rs : Rs := .one (.v (.bool))
@[reducible] noncomputable def class_Wider.code : Code := Tryz.f153.body.getD .skip
noncomputable def class_Wider.C : Ctx := ⟨tab, [class_Known.c, class_sets.c], [], ⟨[], []⟩⟩
theorem class_Wider.eq (n : Nat) (a0 a1 : Int) : call class_Wider.C Tryz.f153 class_Wider.code class_Wider.sg class_Wider.rs n (a0, a1) =
 ((class_Known.f a0).bind fun b0 =>
 (if b0 = true then ((class_Known.f a1).bind fun b1 =>
 (if b1 = true then ((class_sets.f a1).bind fun b2 =>
 ((class_sets.f a0).bind fun b3 =>
 (some (decide (bits BinOp.andNot IntKind.i64 b2 b3 = 0)))))
 else (some false)))
 else (some false))) := by kernel_rfl
noncomputable def class_Wider.f : El (sgTy class_Wider.sg) → Option (El class_Wider.rs.ty) := fun x => match x with
 | (a0, a1) =>
 ((class_Known.f a0).bind fun b0 =>
 (if b0 = true then ((class_Known.f a1).bind fun b1 =>
  (if b1 = true then ((class_sets.f a1).bind fun b2 =>
  ((class_sets.f a0).bind fun b3 =>
  (some (decide (bits BinOp.andNot IntKind.i64 b2 b3 = 0)))))
  else (some false)))
 else (some false)))
noncomputable def class_Wider.c : Con := ⟨153, class_Wider.sg, class_Wider.rs, class_Wider.f⟩
theorem class_Wider.con : ConOk Tryz.prog class_Wider.c := walked (C := class_Wider.C) rfl (by kernel_rfl) (by kernel_rfl) (by kernel_rfl) rfl ⟨class_Known.con, class_sets.con, trivial⟩ fun ⟨a0, a1⟩ y h => ⟨0, (class_Wider.eq 0 a0 a1).trans h⟩
theorem class_Wider (a b : Int) : class_Wider.f (a, b) = some (widC a b) := by
 simp only [class_Wider.f, class_Known.f, class_sets.f, Option.bind_some, widC]
 by_cases h1 : 1 ≤ a ∧ a ≤ 6
 ·rw [if_pos (decide_eq_true h1), decide_eq_true h1, Bool.true_and]
  by_cases h2 : 1 ≤ b ∧ b ≤ 6
  ·rw [if_pos (decide_eq_true h2), decide_eq_true h2, Bool.true_and]
   rfl
  ·rw [if_neg (by simpa using h2), decide_eq_false h2]; rfl
 ·rw [if_neg (by simpa using h1), decide_eq_false h1]; rfl
@[reducible] def spec_classes.sg : List Shp := [.v (.int .i64), .v (.int .i64)]
@[reducible] def spec_classes.rs : Rs := .one (.v (.bool))
@[reducible] noncomputable def spec_classes.code : Code := Tryz.f136.body.getD .skip
noncomputable def spec_classes.C : Ctx := ⟨tab, [class_Wider.c], [], ⟨[], []⟩⟩
theorem spec_classes.eq (n : Nat) (a0 a1 : Int) : call spec_classes.C Tryz.f136 spec_classes.code spec_classes.sg spec_classes.rs n (a0, a1) =
 (if a0 = 5 then (some true)
 else (if a0 = 6 then (some (decide (a0 = a1)))
 else (if a1 = 6 then (some (decide (a0 = a1)))
 else ((class_Wider.f (a0, a1)).bind fun b0 =>
 (some (decide (b0 = true))))))) := by kernel_rfl
noncomputable def spec_classes.f : El (sgTy spec_classes.sg) → Option (El spec_classes.rs.ty) := fun x => match x with
 | (a0, a1) =>
 (if a0 = 5 then (some true)
 else (if a0 = 6 then (some (decide (a0 = a1)))
  else (if a1 = 6 then (some (decide (a0 = a1)))
  else ((class_Wider.f (a0, a1)).bind fun b0 =>
   (some (decide (b0 = true)))))))
noncomputable def spec_classes.c : Con := ⟨136, spec_classes.sg, spec_classes.rs, spec_classes.f⟩
theorem spec_classes.con : ConOk Tryz.prog spec_classes.c := walked (C := spec_classes.C) rfl (by kernel_rfl) (by kernel_rfl) (by kernel_rfl) rfl ⟨class_Wider.con, trivial⟩ fun ⟨a0, a1⟩ y h => ⟨0, (spec_classes.eq 0 a0 a1).trans h⟩
theorem spec_classes (a b : Int) : spec_classes.f (a, b) = some (specC a b) := by
 simp only [spec_classes.f, class_Wider, Option.bind_some, specC]
 by_cases h1 : a = 5
 ·rw [if_pos h1, if_pos h1]
 ·rw [if_neg h1, if_neg h1]
  by_cases h2 : a = 6
  ·rw [if_pos h2, if_pos (.inl h2)]; rfl
  ·rw [if_neg h2]
   by_cases h3 : b = 6
   ·rw [if_pos h3, if_pos (.inr h3)]; rfl
   ·rw [if_neg h3, if_neg (by omega), class_Wider, Option.bind_some]
    cases widC a b <;> rfl
@[reducible] def spec_Wider.sg : List Shp := [.a zd5, .a zd5]
@[reducible] def spec_Wider.rs : Rs := .one (.v (.bool))
@[reducible] noncomputable def spec_Wider.code : Code := Tryz.f105.body.getD .skip
noncomputable def spec_Wider.C : Ctx := ⟨tab, [spec_Check.c, spec_classes.c], [], ⟨[], []⟩⟩
theorem spec_Wider.eq (n : Nat) (a0 a1 a2 a3 a4 a5 a6 a7 a8 a9 : Int) : call spec_Wider.C Tryz.f105 spec_Wider.code spec_Wider.sg spec_Wider.rs n ((a0, (a1, (a2, (a3, a4)))), (a5, (a6, (a7, (a8, a9))))) =
 ((spec_Check.f (a0, a1, a2, a3, a4)).bind fun b0 =>
 (if b0 = 0 then ((spec_Check.f (a5, a6, a7, a8, a9)).bind fun b1 =>
 (if b1 = 0 then (if a3 ≤ a8 then (if a4 ≥ a9 then ((spec_classes.f (a1, a6)).bind fun b2 =>
 (some (decide (b2 = true))))
 else (some false))
 else (some false))
 else (some false)))
 else (some false))) := by kernel_rfl
noncomputable def spec_Wider.f : El (sgTy spec_Wider.sg) → Option (El spec_Wider.rs.ty) := fun x => match x with
 | ((a0, (a1, (a2, (a3, a4)))), (a5, (a6, (a7, (a8, a9))))) =>
 ((spec_Check.f (a0, a1, a2, a3, a4)).bind fun b0 =>
 (if b0 = 0 then ((spec_Check.f (a5, a6, a7, a8, a9)).bind fun b1 =>
  (if b1 = 0 then (if a3 ≤ a8 then (if a4 ≥ a9 then ((spec_classes.f (a1, a6)).bind fun b2 =>
   (some (decide (b2 = true))))
   else (some false))
  else (some false))
  else (some false)))
 else (some false)))
noncomputable def spec_Wider.c : Con := ⟨105, spec_Wider.sg, spec_Wider.rs, spec_Wider.f⟩
theorem spec_Wider.con : ConOk Tryz.prog spec_Wider.c := walked (C := spec_Wider.C) rfl (by kernel_rfl) (by kernel_rfl) (by kernel_rfl) rfl ⟨spec_Check.con, spec_classes.con, trivial⟩ fun ⟨⟨a0, ⟨a1, ⟨a2, ⟨a3, a4⟩⟩⟩⟩, ⟨a5, ⟨a6, ⟨a7, ⟨a8, a9⟩⟩⟩⟩⟩ y h => ⟨0, (spec_Wider.eq 0 a0 a1 a2 a3 a4 a5 a6 a7 a8 a9).trans h⟩
theorem spec_Wider (a b : S5) : spec_Wider.f (a, b) = some (wider a b) := by
 obtain ⟨a0, a1, a2, a3, a4⟩ := a
 obtain ⟨b0, b1, b2, b3, b4⟩ := b
 simp only [spec_Wider.f, spec_Check.f, spec_classes, Option.bind_some, wider, specW]
 by_cases h1 : specE a0 a1 a2 a3 a4 = 0
 ·rw [if_pos h1]
  by_cases h2 : specE b0 b1 b2 b3 b4 = 0
  ·rw [if_pos h2]
   by_cases h3 : a3 ≤ b3
   ·rw [if_pos h3]
    by_cases h4 : a4 ≥ b4
    ·rw [if_pos h4, decide_eq_true (⟨h1, h2, h3, h4⟩ : _ ∧ _ ∧ _ ∧ _), Bool.true_and, spec_classes, Option.bind_some]
     cases specC a1 b1 <;> rfl
    ·rw [if_neg h4, decide_eq_false (fun h => h4 h.2.2.2)]; rfl
   ·rw [if_neg h3, decide_eq_false (fun h => h3 h.2.2.1)]; rfl
  ·rw [if_neg h2, decide_eq_false (fun h => h2 h.2.1)]; rfl
 ·rw [if_neg h1, decide_eq_false (fun h => h1 h.1)]; rfl
@[reducible] def rule_padded.sg : List Shp := [.a zd5]
@[reducible] def rule_padded.rs : Rs := .one (.v (.bool))
@[reducible] noncomputable def rule_padded.code : Code := Tryz.f134.body.getD .skip
noncomputable def rule_padded.C : Ctx := ⟨tab, [], [], ⟨[], []⟩⟩
theorem rule_padded.eq (n : Nat) (a0 a1 a2 a3 a4 : Int) : call rule_padded.C Tryz.f134 rule_padded.code rule_padded.sg rule_padded.rs n (a0, (a1, (a2, (a3, a4)))) =
 (if a1 = 1 then (some (decide (a2 = 1)))
 else (some false)) := by kernel_rfl
noncomputable def rule_padded.f : El (sgTy rule_padded.sg) → Option (El rule_padded.rs.ty) := fun x => match x with
 | (a0, (a1, (a2, (a3, a4)))) =>
 (if a1 = 1 then (some (decide (a2 = 1)))
 else (some false))
noncomputable def rule_padded.c : Con := ⟨134, rule_padded.sg, rule_padded.rs, rule_padded.f⟩
theorem rule_padded.con : ConOk Tryz.prog rule_padded.c := walked (C := rule_padded.C) rfl (by kernel_rfl) (by kernel_rfl) (by kernel_rfl) rfl trivial fun ⟨a0, ⟨a1, ⟨a2, ⟨a3, a4⟩⟩⟩⟩ y h => ⟨0, (rule_padded.eq 0 a0 a1 a2 a3 a4).trans h⟩
theorem rule_padded (s : S5) : rule_padded.f s = some (padded s) := by
 obtain ⟨a0, a1, a2, a3, a4⟩ := s
 simp only [rule_padded.f, padded]
 by_cases h : a1 = 1
 ·rw [if_pos h, decide_eq_true h, Bool.true_and]
 ·rw [if_neg h, decide_eq_false h]; rfl
@[reducible] def rule_table.sg : List Shp := [.v (.sl zdP), .a zd5, .a zd5]
@[reducible] def rule_table.rs : Rs := .one (.v (.int .i64))
@[reducible] noncomputable def rule_table.code : Code := Tryz.f135.body.getD .skip
noncomputable def rule_table.C : Ctx := ⟨tab, [spec_Value.c, codes_Check.c], [], ⟨[(5, [4, 5, 25, 26, 27], 2)], []⟩⟩
noncomputable def rule_table.l0 (n : Nat) (v0 : List zP) (v1 v2 v3 v4 v5 v6 v7 v8 v9 v10 v11 v12 : Int) : Option Int := run rule_table.C (finOf rule_table.C Tryz.f135 rule_table.rs) n (todoAt 5 rule_table.code) ⟨zJ :: zJ :: zJ :: zJ :: .ptr 0 0 :: .ptr 1 0 :: zJ :: zJ :: zJ :: zK (zK (.sl none zdP v0 :: .int .i64 v1 :: .int .i64 v2 :: zJ :: zJ :: zK (zK []))), [[.int .i64 v3, .int .i64 v4, .int .i64 v5, .int .i64 v6, .int .i64 v7], [.int .i64 v8, .int .i64 v9, .int .i64 v10, .int .i64 v11, .int .i64 v12]], []⟩
theorem rule_table.l0_eq n v0 v1 v2 v3 v4 v5 v6 v7 v8 v9 v10 v11 v12 : rule_table.l0 (n + 1) v0 v1 v2 v3 v4 v5 v6 v7 v8 v9 v10 v11 v12 =
 (if v2 < v1 then ((lget v0 v2).bind fun b1 =>
 ((spec_Value.f ((v3, v4, v5, v6, v7), b1.1)).bind fun b2 =>
 (if ¬b2 = 0 then (some b2)
 else ((spec_Value.f ((v8, v9, v10, v11, v12), b1.2)).bind fun b3 =>
 (if ¬b3 = 0 then (some b3)
 else (rule_table.l0 n v0 v1 (IntKind.wrap .i64 (v2 + 1)) v3 v4 v5 v6 v7 v8 v9 v10 v11 v12))))))
 else (some 0)) := by kernel_rfl
theorem rule_table.eq (n : Nat) (a0 : List zP) (a1 a2 a3 a4 a5 a6 a7 a8 a9 a10 : Int) : call rule_table.C Tryz.f135 rule_table.code rule_table.sg rule_table.rs n (a0, ((a1, (a2, (a3, (a4, a5)))), (a6, (a7, (a8, (a9, a10)))))) =
 ((codes_Check.f a0).bind fun b0 =>
 (if ¬b0.1 = 0 then (some 15)
 else (if (a0.length : Int) = 0 then (some 15)
 else (rule_table.l0 n a0 (a0.length : Int) 0 a1 a2 a3 a4 a5 a6 a7 a8 a9 a10)))) := by kernel_rfl
noncomputable def rule_table.f (x : List PB × S5 × S5) : Option Int := if okP x.1 then some (tableE x.1 x.2.1 x.2.2) else none
theorem rule_table (l : List PB) (hl : okP l) (a b : S5) : rule_table.f (l, a, b) = some (tableE l a b) := if_pos hl
theorem specA_val (s : S5) (t : ByteArray) (ht : t.size ≤ 1000000000000) : spec_Value.f (s, t) = some (specA s (bl t)) := by
 obtain ⟨a0, a1, a2, a3, a4⟩ := s
 obtain ⟨t, rfl⟩ := ex_sb t
 rw [size_sb] at ht
 rw [spec_Value _ _ _ _ _ _ ht, bl_sb]; rfl
theorem rule_table_l (l : List PB) (hl : okP l) (a0 a1 a2 a3 a4 b0 b1 b2 b3 b4 : Int) : ∀ (m : List PB) (k i : Nat), l.drop i = m → m.length < k → rule_table.l0 k l (l.length : Int) (i : Int) a0 a1 a2 a3 a4 b0 b1 b2 b3 b4 = some (tableL (a0, a1, a2, a3, a4) (b0, b1, b2, b3, b4) m)
 | [], k, i, hd, hk => by
  obtain ⟨k, rfl⟩ : ∃ m, k = m + 1 := ⟨k - 1, by omega⟩
  have := dropn hd
  rw [rule_table.l0_eq, if_neg (by omega)]; rfl
 | p :: m, k, i, hd, hk => by
  obtain ⟨k, rfl⟩ : ∃ m, k = m + 1 := ⟨k - 1, by omega⟩
  obtain ⟨h1, h2, h3, h4⟩ := dropc hd
  have hk' : m.length < k := by simp at hk; omega
  have hl1 := hl.1
  have hp := hl.2 p (by have := List.drop_subset i l (a := p); rw [hd] at this; exact this (List.mem_cons_self ..))
  rw [rule_table.l0_eq, if_pos (by omega), h4, Option.bind_some, specA_val _ _ hp.1, Option.bind_some, specA_val _ _ hp.2, Option.bind_some, wrap_succ (by omega), rule_table_l l hl a0 a1 a2 a3 a4 b0 b1 b2 b3 b4 m k (i + 1) h2 hk', tableL]
  split
  ·rfl
  ·split <;> rfl
noncomputable def rule_table.c : Con := ⟨135, rule_table.sg, rule_table.rs, rule_table.f⟩
theorem rule_table.con : ConOk Tryz.prog rule_table.c := walked (C := rule_table.C) rfl (by kernel_rfl) (by kernel_rfl) (by kernel_rfl) rfl ⟨spec_Value.con, codes_Check.con, trivial⟩ fun ⟨l, ⟨a0, a1, a2, a3, a4⟩, ⟨b0, b1, b2, b3, b4⟩⟩ y h => by
 have h : rule_table.f (l, (a0, a1, a2, a3, a4), (b0, b1, b2, b3, b4)) = some y := h
 unfold rule_table.f at h
 split at h
 ·rename_i hc
  refine ⟨l.length + 1, ?_⟩
  rw [rule_table.eq, ← h, codes_Check l hc, Option.bind_some, tableE]
  by_cases c : (pairsE l).1 = 0
  ·rw [if_neg (not_not_intro c)]
   by_cases c2 : l.length = 0
   ·rw [if_pos (by omega), if_pos (.inr c2)]
   ·rw [if_neg (by omega), if_neg (by simp only [ne_eq]; omega)]
    exact rule_table_l l hc a0 a1 a2 a3 a4 b0 b1 b2 b3 b4 l _ 0 rfl (by omega)
  ·rw [if_pos c, if_pos (.inl c)]
 ·cases h
@[reducible] def rule_ends.sg : List Shp := [.a zdR, .a zdS, .a zdS]
@[reducible] def rule_ends.rs : Rs := .tup [.a zd5, .a zd5, .v (.int .i64)]
@[reducible] noncomputable def rule_ends.code : Code := Tryz.f133.body.getD .skip
noncomputable def rule_ends.C : Ctx := ⟨tab, [schema_Find.c], [], ⟨[], []⟩⟩
theorem rule_ends.eq (n : Nat) (a0 a1 a2 : Int) (a3 : ByteArray) (a4 : List zP) (a5 a6 : Int) (a7 : List z5) (a8 a9 : Int) (a10 : List z5) : call rule_ends.C Tryz.f133 rule_ends.code rule_ends.sg rule_ends.rs n ((a0, (a1, (a2, (a3, a4)))), ((a5, (a6, a7)), (a8, (a9, a10)))) =
 ((schema_Find.f ((a5, a6, a7), a1)).bind fun b0 =>
 ((schema_Find.f ((a8, a9, a10), a2)).bind fun b1 =>
 (if a0 = 3 then (if a0 = 2 then (if ¬a1 = 0 then (some ((b0.1, b1.1, 9)))
 else (if ¬a2 = 0 then (some ((b0.1, b1.1, 9)))
 else (some ((b0.1, b1.1, 0)))))
 else (if ¬a1 = 0 then (some ((b0.1, b1.1, 9)))
 else (if ¬b1.2 = true then (some ((b0.1, b1.1, 9)))
 else (some ((b0.1, b1.1, 0))))))
 else (if a0 = 2 then (if ¬b0.2 = true then (some ((b0.1, b1.1, 9)))
 else (if ¬a2 = 0 then (some ((b0.1, b1.1, 9)))
 else (some ((b0.1, b1.1, 0)))))
 else (if ¬b0.2 = true then (some ((b0.1, b1.1, 9)))
 else (if ¬b1.2 = true then (some ((b0.1, b1.1, 9)))
 else (some ((b0.1, b1.1, 0))))))))) := by kernel_rfl
noncomputable def rule_ends.f : El (sgTy rule_ends.sg) → Option (El rule_ends.rs.ty) := fun x => match x with
 | ((a0, (a1, (a2, (a3, a4)))), ((a5, (a6, a7)), (a8, (a9, a10)))) =>
 ((schema_Find.f ((a5, a6, a7), a1)).bind fun b0 =>
 ((schema_Find.f ((a8, a9, a10), a2)).bind fun b1 =>
 (if a0 = 3 then (if a0 = 2 then (if ¬a1 = 0 then (some ((Prod.fst b0, Prod.fst b1, 9)))
  else (if ¬a2 = 0 then (some ((Prod.fst b0, Prod.fst b1, 9)))
   else (some ((Prod.fst b0, Prod.fst b1, 0)))))
  else (if ¬a1 = 0 then (some ((Prod.fst b0, Prod.fst b1, 9)))
  else (if ¬Prod.snd b1 = true then (some ((Prod.fst b0, Prod.fst b1, 9)))
   else (some ((Prod.fst b0, Prod.fst b1, 0))))))
 else (if a0 = 2 then (if ¬Prod.snd b0 = true then (some ((Prod.fst b0, Prod.fst b1, 9)))
  else (if ¬a2 = 0 then (some ((Prod.fst b0, Prod.fst b1, 9)))
   else (some ((Prod.fst b0, Prod.fst b1, 0)))))
  else (if ¬Prod.snd b0 = true then (some ((Prod.fst b0, Prod.fst b1, 9)))
  else (if ¬Prod.snd b1 = true then (some ((Prod.fst b0, Prod.fst b1, 9)))
   else (some ((Prod.fst b0, Prod.fst b1, 0)))))))))
noncomputable def rule_ends.c : Con := ⟨133, rule_ends.sg, rule_ends.rs, rule_ends.f⟩
theorem rule_ends.con : ConOk Tryz.prog rule_ends.c := walked (C := rule_ends.C) rfl (by kernel_rfl) (by kernel_rfl) (by kernel_rfl) rfl ⟨schema_Find.con, trivial⟩ fun ⟨⟨a0, ⟨a1, ⟨a2, ⟨a3, a4⟩⟩⟩⟩, ⟨⟨a5, ⟨a6, a7⟩⟩, ⟨a8, ⟨a9, a10⟩⟩⟩⟩ y h => ⟨0, (rule_ends.eq 0 a0 a1 a2 a3 a4 a5 a6 a7 a8 a9 a10).trans h⟩
theorem rule_ends (r : RU) (x y z w : Int) (a b : List S5) (ha : a.length ≤ 1000000) (hb : b.length ≤ 1000000) : rule_ends.f (r, (x, y, a), (z, w, b)) = some (endsE r a b) := by
 obtain ⟨r0, r1, r2, r3, r4⟩ := r
 simp only [rule_ends.f]
 rw [schema_Find x y a ha, Option.bind_some, schema_Find z w b hb, Option.bind_some]
 unfold endsE
 dsimp only
 by_cases h3 : r0 = 3
 ·rw [if_pos h3, if_pos h3, if_neg (by omega : ¬ r0 = 2), if_neg (by omega : ¬ r0 = 2)]
  by_cases c1 : r1 = 0
  ·rw [if_neg (not_not_intro c1)]
   cases c2 : (findS r2 b).2
   ·rw [if_pos (by simp), if_neg (fun h => by cases h.2)]
   ·rw [if_neg (by simp), if_pos ⟨decide_eq_true c1, rfl⟩]
  ·rw [if_pos c1, if_neg (fun h => c1 (of_decide_eq_true h.1))]
 ·rw [if_neg h3, if_neg h3]
  by_cases h2 : r0 = 2
  ·rw [if_pos h2, if_pos h2]
   cases c1 : (findS r1 a).2
   ·rw [if_pos (by simp), if_neg (fun h => by cases h.1)]
   ·rw [if_neg (by simp)]
    by_cases c2 : r2 = 0
    ·rw [if_neg (not_not_intro c2), if_pos ⟨rfl, decide_eq_true c2⟩]
    ·rw [if_pos c2, if_neg (fun h => c2 (of_decide_eq_true h.2))]
  ·rw [if_neg h2, if_neg h2]
   cases c1 : (findS r1 a).2
   ·rw [if_pos (by simp), if_neg (fun h => by cases h.1)]
   ·rw [if_neg (by simp)]
    cases c2 : (findS r2 b).2
    ·rw [if_pos (by simp), if_neg (fun h => by cases h.2)]
    ·rw [if_neg (by simp), if_pos ⟨rfl, rfl⟩]
@[reducible] def rule_Check.sg : List Shp := [.a zdR, .a zdS, .a zdS]
@[reducible] def rule_Check.rs : Rs := .one (.v (.int .i64))
@[reducible] noncomputable def rule_Check.code : Code := Tryz.f102.body.getD .skip
noncomputable def rule_Check.C : Ctx := ⟨tab, [spec_Value.c, spec_Wider.c, rule_ends.c, rule_padded.c, rule_table.c], [], ⟨[], [(1, [(17, .bool)]), (6, [(30, .bool)]), (15, [(73, .bool)])]⟩⟩
theorem rule_Check.eq (n : Nat) (a0 a1 a2 : Int) (a3 : ByteArray) (a4 : List zP) (a5 a6 : Int) (a7 : List z5) (a8 a9 : Int) (a10 : List z5) : call rule_Check.C Tryz.f102 rule_Check.code rule_Check.sg rule_Check.rs n ((a0, (a1, (a2, (a3, a4)))), ((a5, (a6, a7)), (a8, (a9, a10)))) =
 ((((if a0 < 1 then (some true)
 else (some (decide (a0 > 5)))) : Option Bool)).bind fun b0 =>
 (if b0 = true then (some 1)
 else ((rule_ends.f ((a0, a1, a2, a3, a4), (a5, a6, a7), a8, a9, a10)).bind fun b1 =>
 (if ¬b1.2.2 = 0 then (some b1.2.2)
 else ((((if ¬a3 = ByteArray.mk #[] then (if ¬a0 = 3 then (some true)
 else (if (a4.length : Int) > 0 then (some (decide ¬a0 = 5))
 else (some false)))
 else (if (a4.length : Int) > 0 then (some (decide ¬a0 = 5))
 else (some false))) : Option Bool)).bind fun b2 =>
 (if b2 = true then (some 3)
 else (if a0 = 1 then ((spec_Wider.f (b1.2.1, b1.1)).bind fun b3 =>
 (if ¬b3 = true then (some 6)
 else (some 0)))
 else (if a0 = 3 then ((spec_Value.f (b1.2.1, a3)).bind fun b4 =>
 (some b4))
 else (if a0 = 4 then (((((rule_padded.f b1.1).bind fun b5 =>
 (if ¬b5 = true then (some true)
 else ((rule_padded.f b1.2.1).bind fun b6 =>
 (some (decide ¬b6 = true))))) : Option Bool)).bind fun b7 =>
 (if b7 = true then (some 6)
 else (some 0)))
 else (if a0 = 5 then ((rule_table.f (a4, b1.1, b1.2.1)).bind fun b8 =>
 (some b8))
 else (some 0))))))))))) := by kernel_rfl
noncomputable def rule_Check.f : El (sgTy rule_Check.sg) → Option (El rule_Check.rs.ty) := fun x => match x with
 | ((a0, (a1, (a2, (a3, a4)))), ((a5, (a6, a7)), (a8, (a9, a10)))) =>
 ((((if a0 < 1 then (some true)
  else (some (decide (a0 > 5)))) : Option Bool)).bind fun b0 =>
 (if b0 = true then (some 1)
 else ((rule_ends.f ((a0, a1, a2, a3, a4), (a5, a6, a7), a8, a9, a10)).bind fun b1 =>
  (if ¬Prod.snd (Prod.snd b1) = 0 then (some (Prod.snd (Prod.snd b1)))
  else ((((if ¬a3 = ByteArray.mk #[] then (if ¬a0 = 3 then (some true)
   else (if (↑(List.length a4) : Int) > 0 then (some (decide ¬a0 = 5))
    else (some false)))
   else (if (↑(List.length a4) : Int) > 0 then (some (decide ¬a0 = 5))
   else (some false))) : Option Bool)).bind fun b2 =>
  (if b2 = true then (some 3)
  else (if a0 = 1 then ((spec_Wider.f (Prod.fst (Prod.snd b1), Prod.fst b1)).bind fun b3 =>
   (if ¬b3 = true then (some 6)
   else (some 0)))
   else (if a0 = 3 then ((spec_Value.f (Prod.fst (Prod.snd b1), a3)).bind fun b4 =>
    (some b4))
   else (if a0 = 4 then (((((rule_padded.f (Prod.fst b1)).bind fun b5 =>
     (if ¬b5 = true then (some true)
     else ((rule_padded.f (Prod.fst (Prod.snd b1))).bind fun b6 =>
     (some (decide ¬b6 = true))))) : Option Bool)).bind fun b7 =>
    (if b7 = true then (some 6)
    else (some 0)))
    else (if a0 = 5 then ((rule_table.f (a4, Prod.fst b1, Prod.fst (Prod.snd b1))).bind fun b8 =>
     (some b8))
    else (some 0)))))))))))
noncomputable def rule_Check.c : Con := ⟨102, rule_Check.sg, rule_Check.rs, rule_Check.f⟩
theorem rule_Check.con : ConOk Tryz.prog rule_Check.c := walked (C := rule_Check.C) rfl (by kernel_rfl) (by kernel_rfl) (by kernel_rfl) rfl ⟨spec_Value.con, spec_Wider.con, rule_ends.con, rule_padded.con, rule_table.con, trivial⟩ fun ⟨⟨a0, ⟨a1, ⟨a2, ⟨a3, a4⟩⟩⟩⟩, ⟨⟨a5, ⟨a6, a7⟩⟩, ⟨a8, ⟨a9, a10⟩⟩⟩⟩ y h => ⟨0, (rule_Check.eq 0 a0 a1 a2 a3 a4 a5 a6 a7 a8 a9 a10).trans h⟩
def okR (r : RU) : Prop := r.2.2.2.1.size ≤ 1000000000000 ∧ okP r.2.2.2.2
instance (r : RU) : Decidable (okR r) := by unfold okR; infer_instance
theorem rule_Check (r : RU) (hr : okR r) (x y z w : Int) (a b : List S5) (ha : a.length ≤ 1000000) (hb : b.length ≤ 1000000) : rule_Check.f (r, (x, y, a), (z, w, b)) = some (ruleE r a b) := by
 obtain ⟨r0, r1, r2, r3, r4⟩ := r
 have hr1 : r3.size ≤ 1000000000000 := hr.1
 have hr2 : okP r4 := hr.2
 simp only [rule_Check.f]
 unfold ruleE
 dsimp only
 have e1 : ((if r0 < 1 then some true else some (decide (r0 > 5))) : Option Bool) = some (decide (r0 < 1 ∨ 5 < r0)) := by
  by_cases c : r0 < 1
  ·rw [if_pos c, decide_eq_true (.inl c)]
  ·rw [if_neg c]
   exact congrArg some (decide_eq_decide.2 (by omega))
 rw [e1, Option.bind_some]
 by_cases c1 : r0 < 1 ∨ 5 < r0
 ·rw [if_pos (decide_eq_true c1), if_pos c1]
 rw [if_neg (by simpa using c1), if_neg c1, rule_ends (r0, r1, r2, r3, r4) x y z w a b ha hb, Option.bind_some]
 by_cases c2 : ¬ (endsE (r0, r1, r2, r3, r4) a b).2.2 = 0
 ·rw [if_pos c2, if_pos c2]
 have c2 := Decidable.not_not.1 c2
 rw [if_neg (not_not_intro c2), if_neg (not_not_intro c2)]
 have e2 : ((if ¬r3 = ByteArray.mk #[] then (if ¬r0 = 3 then some true else (if (↑(List.length r4) : Int) > 0 then some (decide ¬r0 = 5) else some false)) else (if (↑(List.length r4) : Int) > 0 then some (decide ¬r0 = 5) else some false)) : Option Bool) = some (decide ((r3 ≠ ByteArray.mk #[] ∧ r0 ≠ 3) ∨ (0 < r4.length ∧ r0 ≠ 5))) := by
  by_cases d1 : r3 = ByteArray.mk #[]
  ·rw [if_neg (not_not_intro d1)]
   by_cases d2 : (↑(List.length r4) : Int) > 0
   ·rw [if_pos d2]
    exact congrArg some (decide_eq_decide.2 ⟨fun h => .inr ⟨by omega, h⟩, fun h => h.elim (fun h => absurd d1 h.1) fun h => h.2⟩)
   ·rw [if_neg d2, decide_eq_false (fun h => h.elim (fun h => h.1 d1) fun h => by omega)]
  ·rw [if_pos d1]
   by_cases d3 : r0 = 3
   ·rw [if_neg (not_not_intro d3)]
    by_cases d2 : (↑(List.length r4) : Int) > 0
    ·rw [if_pos d2]
     exact congrArg some (decide_eq_decide.2 ⟨fun h => .inr ⟨by omega, h⟩, fun h => h.elim (fun h => absurd d3 h.2) fun h => h.2⟩)
    ·rw [if_neg d2, decide_eq_false (fun h => h.elim (fun h => h.2 d3) fun h => by omega)]
   ·rw [if_pos d3, decide_eq_true (.inl ⟨d1, d3⟩)]
 rw [e2, Option.bind_some]
 by_cases c3 : (r3 ≠ ByteArray.mk #[] ∧ r0 ≠ 3) ∨ (0 < r4.length ∧ r0 ≠ 5)
 ·rw [if_pos (decide_eq_true c3), if_pos c3]
 rw [if_neg (by simpa only [decide_eq_true_eq] using c3), if_neg c3]
 by_cases k1 : r0 = 1
 ·rw [if_pos k1, if_pos k1, spec_Wider, Option.bind_some]
  cases wider (endsE (r0, r1, r2, r3, r4) a b).2.1 (endsE (r0, r1, r2, r3, r4) a b).1 <;> rfl
 rw [if_neg k1, if_neg k1]
 by_cases k3 : r0 = 3
 ·rw [if_pos k3, if_pos k3, specA_val _ _ hr1, Option.bind_some]
 rw [if_neg k3, if_neg k3]
 by_cases k4 : r0 = 4
 ·rw [if_pos k4, if_pos k4, rule_padded, rule_padded, Option.bind_some, Option.bind_some]
  cases padded (endsE (r0, r1, r2, r3, r4) a b).1 <;> cases padded (endsE (r0, r1, r2, r3, r4) a b).2.1 <;> rfl
 rw [if_neg k4, if_neg k4]
 by_cases k5 : r0 = 5
 ·rw [if_pos k5, if_pos k5, rule_table _ hr2, Option.bind_some]
 ·rw [if_neg k5, if_neg k5]
@[reducible] def xlate_typed.sg : List Shp := [.a zdP, .a zdS, .a zdS]
@[reducible] def xlate_typed.rs : Rs := .one (.v (.bool))
@[reducible] noncomputable def xlate_typed.code : Code := Tryz.f101.body.getD .skip
noncomputable def xlate_typed.C : Ctx := ⟨tab, [mti_Version.c, mti_Request.c], [], ⟨[], []⟩⟩
theorem xlate_typed.eq (n : Nat) (a0 a1 : ByteArray) (a2 a3 : Int) (a4 : List z5) (a5 a6 : Int) (a7 : List z5) : call xlate_typed.C Tryz.f101 xlate_typed.code xlate_typed.sg xlate_typed.rs n ((a0, a1), ((a2, (a3, a4)), (a5, (a6, a7)))) =
 ((mti_Version.f a0).bind fun b0 =>
 ((mti_Version.f a1).bind fun b1 =>
 (if b0.2 = true then (if b1.2 = true then (if b0.1 = a3 then (if b1.1 = a6 then ((mti_Request.f a0).bind fun b2 =>
 ((mti_Request.f a1).bind fun b3 =>
 (some (decide (decide (b2 = true) = decide (b3 = true))))))
 else (some false))
 else (some false))
 else (some false))
 else (some false)))) := by kernel_rfl
noncomputable def xlate_typed.f : El (sgTy xlate_typed.sg) → Option (El xlate_typed.rs.ty) := fun x => match x with
 | ((a0, a1), ((a2, (a3, a4)), (a5, (a6, a7)))) =>
 ((mti_Version.f a0).bind fun b0 =>
 ((mti_Version.f a1).bind fun b1 =>
 (if Prod.snd b0 = true then (if Prod.snd b1 = true then (if Prod.fst b0 = a3 then (if Prod.fst b1 = a6 then ((mti_Request.f a0).bind fun b2 =>
   ((mti_Request.f a1).bind fun b3 =>
   (some (decide (decide (b2 = true) = decide (b3 = true))))))
   else (some false))
  else (some false))
  else (some false))
 else (some false))))
noncomputable def xlate_typed.c : Con := ⟨101, xlate_typed.sg, xlate_typed.rs, xlate_typed.f⟩
theorem xlate_typed.con : ConOk Tryz.prog xlate_typed.c := walked (C := xlate_typed.C) rfl (by kernel_rfl) (by kernel_rfl) (by kernel_rfl) rfl ⟨mti_Version.con, mti_Request.con, trivial⟩ fun ⟨⟨a0, a1⟩, ⟨⟨a2, ⟨a3, a4⟩⟩, ⟨a5, ⟨a6, a7⟩⟩⟩⟩ y h => ⟨0, (xlate_typed.eq 0 a0 a1 a2 a3 a4 a5 a6 a7).trans h⟩
theorem xlate_typed (p : PB) (x v y w : Int) (a b : List S5) : xlate_typed.f (p, (x, v, a), (y, w, b)) = some (typedP p v w) := by
 obtain ⟨s, t⟩ := p
 obtain ⟨s, rfl⟩ := ex_sb s
 obtain ⟨t, rfl⟩ := ex_sb t
 have e : typedP (sb s, sb t) v w = (right s && (right t && (decide (version s = v) && (decide (version t = w) && decide (asks s = asks t))))) := by
  have h1 : bl (sb s) = s := bl_sb s
  have h2 : bl (sb t) = t := bl_sb t
  show (right (bl (sb s)) && (right (bl (sb t)) && (decide (version (bl (sb s)) = v) && (decide (version (bl (sb t)) = w) && decide (asks (bl (sb s)) = asks (bl (sb t))))))) = _
  rw [h1, h2]
 rw [e]
 simp only [xlate_typed.f]
 rw [mti_Version, mti_Version, Option.bind_some, Option.bind_some]
 by_cases h1 : right s = true
 ·rw [if_pos h1, h1, Bool.true_and, if_pos rfl]
  by_cases h2 : right t = true
  ·rw [if_pos h2, h2, Bool.true_and, if_pos rfl]
   show (if version s = v then if version t = w then (mti_Request.f (sb s)).bind fun b2 => (mti_Request.f (sb t)).bind fun b3 => some (decide (decide (b2 = true) = decide (b3 = true))) else some false else some false) = _
   by_cases h3 : version s = v
   ·rw [if_pos h3, decide_eq_true h3, Bool.true_and]
    by_cases h4 : version t = w
    ·rw [if_pos h4, decide_eq_true h4, Bool.true_and, mti_Request, mti_Request, Option.bind_some, Option.bind_some]
     cases asks s <;> cases asks t <;> rfl
    ·rw [if_neg h4, decide_eq_false h4]; rfl
   ·rw [if_neg h3, decide_eq_false h3]; rfl
  ·rw [if_neg h2, if_neg (by simp), Bool.eq_false_iff.2 h2]; rfl
 ·rw [if_neg h1, if_neg (by simp), Bool.eq_false_iff.2 h1]; rfl
@[reducible] def xlate_find.sg : List Shp := [.a zdM, .v (.int .i64)]
@[reducible] def xlate_find.rs : Rs := .tup [.a zdR, .v (.bool)]
@[reducible] noncomputable def xlate_find.code : Code := Tryz.f63.body.getD .skip
noncomputable def xlate_find.C : Ctx := ⟨tab, [], [], ⟨[(2, [1, 4, 9, 10, 11], 2)], []⟩⟩
noncomputable def xlate_find.l0 (n : Nat) (v0 : Int) (v1 : List zR) (v2 v3 : Int) (v4 : List zP) (v5 : List zR) (v6 v7 v8 : Int) (v9 : ByteArray) : Option (((Int × (Int × (Int × (ByteArray × List ((ByteArray × ByteArray)))))) × Bool)) := run xlate_find.C (finOf xlate_find.C Tryz.f63 xlate_find.rs) n (todoAt 2 xlate_find.code) ⟨zJ :: .int .i64 v0 :: zJ :: zJ :: .ptr 1 0 :: zJ :: zJ :: zJ :: zJ :: .sl none zdR v1 :: .int .i64 v2 :: .int .i64 v3 :: zJ :: zJ :: zK [], [[.sl none zdP v4, .sl none zdR v5], [.int .i64 v6, .int .i64 v7, .int .i64 v8, .str v9, .nilsl]], []⟩
theorem xlate_find.l0_eq n v0 v1 v2 v3 v4 v5 v6 v7 v8 v9 : xlate_find.l0 (n + 1) v0 v1 v2 v3 v4 v5 v6 v7 v8 v9 =
 (if v3 < v2 then ((lget v1 v3).bind fun b0 =>
 (if b0.2.1 = v0 then (some ((b0, true)))
 else (xlate_find.l0 n v0 v1 v2 (IntKind.wrap .i64 (v3 + 1)) v4 v5 v6 v7 v8 v9)))
 else (some (((0, 0, 0, ByteArray.mk #[], []), false)))) := by kernel_rfl
theorem xlate_find.eq (n : Nat) (a0 : List zP) (a1 : List zR) (a2 : Int) : call xlate_find.C Tryz.f63 xlate_find.code xlate_find.sg xlate_find.rs n ((a0, a1), a2) =
 (xlate_find.l0 n a2 a1 (a1.length : Int) 0 a0 a1 0 0 0 (ByteArray.mk #[])) := by kernel_rfl
@[reducible] def xlate_head.sg : List Shp := [.a zdM, .v (.str)]
@[reducible] def xlate_head.rs : Rs := .tup [.v (.str), .v (.bool)]
@[reducible] noncomputable def xlate_head.code : Code := Tryz.f61.body.getD .skip
noncomputable def xlate_head.C : Ctx := ⟨tab, [], [], ⟨[(2, [1, 9, 10, 11], 1)], []⟩⟩
noncomputable def xlate_head.l0 (n : Nat) (v0 : ByteArray) (v1 : List zP) (v2 v3 : Int) (v4 : List zP) (v5 : List zR) : Option ((ByteArray × Bool)) := run xlate_head.C (finOf xlate_head.C Tryz.f61 xlate_head.rs) n (todoAt 2 xlate_head.code) ⟨zJ :: .str v0 :: zJ :: zJ :: zJ :: zJ :: zJ :: zJ :: zJ :: .sl none zdP v1 :: .int .i64 v2 :: .int .i64 v3 :: zJ :: zJ :: zK [], [[.sl none zdP v4, .sl none zdR v5]], []⟩
theorem xlate_head.l0_eq n v0 v1 v2 v3 v4 v5 : xlate_head.l0 (n + 1) v0 v1 v2 v3 v4 v5 =
 (if v3 < v2 then ((lget v1 v3).bind fun b0 =>
 (if b0.1 = v0 then (some ((b0.2, true)))
 else (xlate_head.l0 n v0 v1 v2 (IntKind.wrap .i64 (v3 + 1)) v4 v5)))
 else (some ((ByteArray.mk #[], false)))) := by kernel_rfl
theorem xlate_head.eq (n : Nat) (a0 : List zP) (a1 : List zR) (a2 : ByteArray) : call xlate_head.C Tryz.f61 xlate_head.code xlate_head.sg xlate_head.rs n ((a0, a1), a2) =
 (xlate_head.l0 n a2 a0 (a0.length : Int) 0 a0 a1) := by kernel_rfl
@[reducible] def xlate_Check.sg : List Shp := [.a zdM, .a zdS, .a zdS]
@[reducible] def xlate_Check.rs : Rs := .tup [.v (.int .i64), .v (.int .i64), .v (.int .i64)]
@[reducible] noncomputable def xlate_Check.code : Code := Tryz.f58.body.getD .skip
noncomputable def xlate_Check.C : Ctx := ⟨tab, [fields_Set_Both.c, schema_Check.c, fields_Set_Either.c, xlate_typed.c, rule_Check.c, fields_Of.c], [], ⟨[(2, [3, 4, 5, 26, 27, 28], 3), (12, [3, 4, 5, 13, 48, 49, 50], 4), (24, [4, 5, 16, 17, 77, 78, 79], 6)], []⟩⟩
noncomputable def xlate_Check.l0 (n : Nat) (v0 : List ((Int × (Int × List ((Int × (Int × (Int × (Int × Int))))))))) (v1 v2 : Int) (v3 : List zP) (v4 : List zR) (v5 v6 : Int) (v7 : List z5) (v8 v9 : Int) (v10 : List z5) : Option ((Int × (Int × Int))) := run xlate_Check.C (finOf xlate_Check.C Tryz.f58 xlate_Check.rs) n (todoAt 2 xlate_Check.code) ⟨zJ :: zJ :: zJ :: .ptr 0 0 :: .ptr 1 0 :: .ptr 2 0 :: zJ :: zJ :: zJ :: zJ :: zK (zK (.sl (some 0) zdS v0 :: .int .i64 v1 :: .int .i64 v2 :: zJ :: zJ :: zJ :: zJ :: zK (zK (zK (zK (zK (zK (zK (zK (zK (zK (zK [])))))))))))), [[.sl none zdP v3, .sl none zdR v4], [.int .i64 v5, .int .i64 v6, .sl none zd5 v7], [.int .i64 v8, .int .i64 v9, .sl none zd5 v10]], [true]⟩
noncomputable def xlate_Check.l1 (n : Nat) (v0 : List zP) (v1 v2 : Int) (v3 : List zP) (v4 : List zR) (v5 v6 : Int) (v7 : List z5) (v8 v9 : Int) (v10 : List z5) (v11 : List ByteArray) : Option ((Int × (Int × Int))) := run xlate_Check.C (finOf xlate_Check.C Tryz.f58 xlate_Check.rs) n (todoAt 12 xlate_Check.code) ⟨zJ :: zJ :: zJ :: .ptr 0 0 :: .ptr 1 0 :: .ptr 2 0 :: zJ :: zJ :: zJ :: zJ :: zJ :: zJ :: zJ :: .mp 3 :: zJ :: zJ :: zK (zK (zK (zK (.sl none zdP v0 :: .int .i64 v1 :: .int .i64 v2 :: zJ :: zJ :: zJ :: zJ :: zJ :: zJ :: zK (zK (zK (zK (zK (zK (zK (zK []))))))))))), [[.sl none zdP v3, .sl none zdR v4], [.int .i64 v5, .int .i64 v6, .sl none zd5 v7], [.int .i64 v8, .int .i64 v9, .sl none zd5 v10], [.keys 9 4 (.str) v11]], []⟩
noncomputable def xlate_Check.l2 (n : Nat) (v0 : List zR) (v1 v2 : Int) (v3 : List zP) (v4 : List zR) (v5 v6 : Int) (v7 : List z5) (v8 v9 : Int) (v10 : List z5) (v11 : List ByteArray) (v12 v13 v14 v15 : Int) : Option ((Int × (Int × Int))) := run xlate_Check.C (finOf xlate_Check.C Tryz.f58 xlate_Check.rs) n (todoAt 24 xlate_Check.code) ⟨zJ :: zJ :: zJ :: zJ :: .ptr 1 0 :: .ptr 2 0 :: zJ :: zJ :: zK (.ptr 4 0 :: .ptr 5 0 :: zJ :: zJ :: zJ :: zK (zK (zK (zK (zK (zK (zK (.sl none zdR v0 :: .int .i64 v1 :: .int .i64 v2 :: zJ :: zK (zK (zK (zK (zK [])))))))))))), [[.sl none zdP v3, .sl none zdR v4], [.int .i64 v5, .int .i64 v6, .sl none zd5 v7], [.int .i64 v8, .int .i64 v9, .sl none zd5 v10], [.keys 9 4 (.str) v11], [.int .u64 v12, .int .u64 v13], [.int .u64 v14, .int .u64 v15]], []⟩
theorem xlate_Check.l0_eq n v0 v1 v2 v3 v4 v5 v6 v7 v8 v9 v10 : xlate_Check.l0 (n + 1) v0 v1 v2 v3 v4 v5 v6 v7 v8 v9 v10 =
 (if v2 < v1 then ((lget v0 v2).bind fun b0 =>
 ((schema_Check.f b0).bind fun b1 =>
 (if ¬b1.1 = 0 then (some ((1, 1, v2)))
 else (xlate_Check.l0 n v0 v1 (IntKind.wrap .i64 (v2 + 1)) v3 v4 v5 v6 v7 v8 v9 v10))))
 else (if (v3.length : Int) > 256 then (some ((5, 2, 256)))
 else (xlate_Check.l1 n v3 (v3.length : Int) 0 v3 v4 v5 v6 v7 v8 v9 v10 []))) := by kernel_rfl
theorem xlate_Check.l1_eq n v0 v1 v2 v3 v4 v5 v6 v7 v8 v9 v10 v11 : xlate_Check.l1 (n + 1) v0 v1 v2 v3 v4 v5 v6 v7 v8 v9 v10 v11 =
 (if v2 < v1 then ((lget v0 v2).bind fun b2 =>
 ((xlate_typed.f (b2, (v5, v6, v7), v8, v9, v10)).bind fun b3 =>
 (if ¬b3 = true then (some ((7, 2, v2)))
 else (if ByteArray.size b2.1 ≤ 9223372036854775807 then (if b2.1 ∈ v11 then (some ((10, 2, v2)))
 else (if ByteArray.size b2.1 ≤ 9223372036854775807 ∧ List.length v11 < 9223372036854775807 then (xlate_Check.l1 n v0 v1 (IntKind.wrap .i64 (v2 + 1)) v3 v4 v5 v6 v7 v8 v9 v10 (v11 ++ [b2.1]))
 else none))
 else none))))
 else (if (v4.length : Int) > 256 then (some ((5, 3, 256)))
 else (xlate_Check.l2 n v4 (v4.length : Int) 0 v3 v4 v5 v6 v7 v8 v9 v10 v11 0 0 0 0))) := by kernel_rfl
theorem xlate_Check.l2_eq n v0 v1 v2 v3 v4 v5 v6 v7 v8 v9 v10 v11 v12 v13 v14 v15 : xlate_Check.l2 (n + 1) v0 v1 v2 v3 v4 v5 v6 v7 v8 v9 v10 v11 v12 v13 v14 v15 =
 (if v2 < v1 then ((lget v0 v2).bind fun b4 =>
 ((rule_Check.f (b4, (v5, v6, v7), v8, v9, v10)).bind fun b5 =>
 (if ¬b5 = 0 then (some ((b5, 3, v2)))
 else ((fields_Of.f [b4.2.1]).bind fun b6 =>
 ((fields_Of.f [b4.2.2.1]).bind fun b7 =>
 ((fields_Set_Both.f ((v12, v13), b6)).bind fun b8 =>
 (if ¬(b8.1 = 0 ∧ b8.2 = 0 ∧ True) then (some ((10, 3, v2)))
 else ((fields_Set_Both.f ((v14, v15), b7)).bind fun b9 =>
 (if ¬(b9.1 = 0 ∧ b9.2 = 0 ∧ True) then (some ((10, 3, v2)))
 else ((fields_Set_Either.f ((v12, v13), b6)).bind fun b10 =>
 ((fields_Set_Either.f ((v14, v15), b7)).bind fun b11 =>
 (xlate_Check.l2 n v0 v1 (IntKind.wrap .i64 (v2 + 1)) v3 v4 v5 v6 v7 v8 v9 v10 v11 b10.1 b10.2 b11.1 b11.2))))))))))))
 else (some ((0, 0, 0)))) := by kernel_rfl
theorem xlate_Check.eq (n : Nat) (a0 : List zP) (a1 : List zR) (a2 a3 : Int) (a4 : List z5) (a5 a6 : Int) (a7 : List z5) : call xlate_Check.C Tryz.f58 xlate_Check.code xlate_Check.sg xlate_Check.rs n ((a0, a1), ((a2, (a3, a4)), (a5, (a6, a7)))) =
 (xlate_Check.l0 n ([(a2, a3, a4), (a5, a6, a7)]) ((↑(List.length [(a2, a3, a4), (a5, a6, a7)]) : Int)) 0 a0 a1 a2 a3 a4 a5 a6 a7) := by kernel_rfl
def okC (m : RC) : Prop := okP m.1 ∧ m.2.length ≤ 100000 ∧ ∀ r ∈ m.2, okR r
instance (m : RC) : Decidable (okC m) := by unfold okC; infer_instance
noncomputable def xlate_find.f (x : RC × Int) : Option (RU × Bool) := if okC x.1 then some (ruleOf x.2 x.1.2) else none
theorem xlate_find (m : RC) (hm : okC m) (n : Int) : xlate_find.f (m, n) = some (ruleOf n m.2) := if_pos hm
theorem xlate_find_l (l : List RU) (hl : l.length ≤ 100000) (n : Int) (c : List PB) (a b d : Int) (e : ByteArray) : ∀ (m : List RU) (k i : Nat), l.drop i = m → m.length < k → xlate_find.l0 k n l (l.length : Int) (i : Int) c l a b d e = some (ruleOf n m)
 | [], k, i, hd, hk => by
  obtain ⟨k, rfl⟩ : ∃ m, k = m + 1 := ⟨k - 1, by omega⟩
  have := dropn hd
  rw [xlate_find.l0_eq, if_neg (by omega)]; rfl
 | r :: m, k, i, hd, hk => by
  obtain ⟨k, rfl⟩ : ∃ m, k = m + 1 := ⟨k - 1, by omega⟩
  obtain ⟨h1, h2, h3, h4⟩ := dropc hd
  have hk' : m.length < k := by simp at hk; omega
  rw [xlate_find.l0_eq, if_pos (by omega), h4, Option.bind_some, wrap_succ (by omega), xlate_find_l l hl n c a b d e m k (i + 1) h2 hk', ruleOf]
  split <;> rfl
noncomputable def xlate_find.c : Con := ⟨63, xlate_find.sg, xlate_find.rs, xlate_find.f⟩
theorem xlate_find.con : ConOk Tryz.prog xlate_find.c := walked (C := xlate_find.C) rfl (by kernel_rfl) (by kernel_rfl) (by kernel_rfl) rfl trivial fun ⟨⟨c, l⟩, n⟩ y h => by
 have h : xlate_find.f ((c, l), n) = some y := h
 unfold xlate_find.f at h
 split at h
 ·rename_i hc
  exact ⟨l.length + 1, by rw [xlate_find.eq, ← h]; exact xlate_find_l l hc.2.1 n c 0 0 0 _ l _ 0 rfl (by omega)⟩
 ·cases h
noncomputable def xlate_head.f (x : RC × ByteArray) : Option (ByteArray × Bool) := if okC x.1 then some (applyP x.2 x.1.1) else none
theorem xlate_head (m : RC) (hm : okC m) (t : ByteArray) : xlate_head.f (m, t) = some (applyP t m.1) := if_pos hm
theorem xlate_head_l (l : List PB) (hl : okP l) (t : ByteArray) (c : List RU) : ∀ (m : List PB) (k i : Nat), l.drop i = m → m.length < k → xlate_head.l0 k t l (l.length : Int) (i : Int) l c = some (applyP t m)
 | [], k, i, hd, hk => by
  obtain ⟨k, rfl⟩ : ∃ m, k = m + 1 := ⟨k - 1, by omega⟩
  have := dropn hd
  rw [xlate_head.l0_eq, if_neg (by omega)]; rfl
 | p :: m, k, i, hd, hk => by
  obtain ⟨k, rfl⟩ : ∃ m, k = m + 1 := ⟨k - 1, by omega⟩
  obtain ⟨h1, h2, h3, h4⟩ := dropc hd
  have hk' : m.length < k := by simp at hk; omega
  have hl1 := hl.1
  rw [xlate_head.l0_eq, if_pos (by omega), h4, Option.bind_some, wrap_succ (by omega), xlate_head_l l hl t c m k (i + 1) h2 hk', applyP]
  split <;> rfl
noncomputable def xlate_head.c : Con := ⟨61, xlate_head.sg, xlate_head.rs, xlate_head.f⟩
theorem xlate_head.con : ConOk Tryz.prog xlate_head.c := walked (C := xlate_head.C) rfl (by kernel_rfl) (by kernel_rfl) (by kernel_rfl) rfl trivial fun ⟨⟨l, c⟩, t⟩ y h => by
 have h : xlate_head.f ((l, c), t) = some y := h
 unfold xlate_head.f at h
 split at h
 ·rename_i hc
  exact ⟨l.length + 1, by rw [xlate_head.eq, ← h]; exact xlate_head_l l hc.1 t c l _ 0 rfl (by omega)⟩
 ·cases h
abbrev SC := Int × Int × List S5
noncomputable def xlate_Check.f (x : RC × SC × SC) : Option (Int × Int × Int) := if okC x.1 ∧ x.2.1.2.2.length ≤ 1000000 ∧ x.2.2.2.2.length ≤ 1000000 then some (mapE x.1 x.2.1 x.2.2) else none
theorem xlate_Check (m : RC) (hm : okC m) (a b : SC) (ha : a.2.2.length ≤ 1000000) (hb : b.2.2.length ≤ 1000000) : xlate_Check.f (m, a, b) = some (mapE m a b) := if_pos ⟨hm, ha, hb⟩
theorem one_of (n : Int) : fields_Of.f [n] = some ((fb1 n : Int), (fb2 n : Int)) := by
 rw [fields_Of [n] (by simp)]
 simp only [withAll, Nat.zero_or]
section
variable (p : List PB) (l : List RU) (hp : okP p) (hl : l.length ≤ 100000) (hr : ∀ r ∈ l, okR r) (x v y w : Int) (a b : List S5) (ha : a.length ≤ 1000000) (hb : b.length ≤ 1000000)
include hl hr ha hb
theorem xlate_Check_l2 (seen : List ByteArray) : ∀ (m : List RU) (k i f1 f2 t1 t2 : Nat), l.drop i = m → f1 < 18446744073709551616 → f2 < 18446744073709551616 → t1 < 18446744073709551616 → t2 < 18446744073709551616 → m.length < k →
  xlate_Check.l2 k l (l.length : Int) (i : Int) p l x v a y w b seen (f1 : Int) (f2 : Int) (t1 : Int) (t2 : Int) = some (rulesL a b m i (f1, f2) (t1, t2))
 | [], k, i, f1, f2, t1, t2, hd, h1, h2, h3, h4, hk => by
  obtain ⟨k, rfl⟩ : ∃ m, k = m + 1 := ⟨k - 1, by omega⟩
  have := dropn hd
  rw [xlate_Check.l2_eq, if_neg (by omega)]; rfl
 | r :: m, k, i, f1, f2, t1, t2, hd, g1, g2, g3, g4, hk => by
  obtain ⟨k, rfl⟩ : ∃ m, k = m + 1 := ⟨k - 1, by omega⟩
  obtain ⟨h1, h2, h3, h4⟩ := dropc hd
  have hk' : m.length < k := by simp at hk; omega
  have hri := hr r (by have := List.drop_subset i l (a := r); rw [hd] at this; exact this (List.mem_cons_self ..))
  rw [xlate_Check.l2_eq, if_pos (by omega), h4, Option.bind_some, rule_Check r hri x v y w a b ha hb, Option.bind_some, rulesL]
  by_cases c1 : ¬ ruleE r a b = 0
  ·rw [if_pos c1, if_pos c1]
  rw [if_neg c1, if_neg c1, one_of, Option.bind_some, one_of, Option.bind_some, fields_Set_Both f1 f2 _ _ g1 g2 (fb1_lt _) (fb2_lt _), Option.bind_some]
  have z : ∀ (q1 q2 : Nat), (¬ (((q1 : Nat) : Int) = 0 ∧ ((q2 : Nat) : Int) = 0 ∧ True)) ↔ ¬ (q1 = 0 ∧ q2 = 0) := fun q1 q2 => not_congr (by rw [and_true]; omega)
  by_cases c2 : ¬ (f1 &&& fb1 r.2.1 = 0 ∧ f2 &&& fb2 r.2.1 = 0)
  ·rw [if_pos ((z _ _).2 c2), if_pos c2]
  rw [if_neg (fun h => c2 ((z _ _).1 h)), if_neg c2, fields_Set_Both t1 t2 _ _ g3 g4 (fb1_lt _) (fb2_lt _), Option.bind_some]
  by_cases c3 : ¬ (t1 &&& fb1 r.2.2.1 = 0 ∧ t2 &&& fb2 r.2.2.1 = 0)
  ·rw [if_pos ((z _ _).2 c3), if_pos c3]
  rw [if_neg (fun h => c3 ((z _ _).1 h)), if_neg c3, fields_Set_Either f1 f2 _ _ g1 g2 (fb1_lt _) (fb2_lt _), Option.bind_some, fields_Set_Either t1 t2 _ _ g3 g4 (fb1_lt _) (fb2_lt _), Option.bind_some, wrap_succ (by omega)]
  exact xlate_Check_l2 seen m k (i + 1) _ _ _ _ h2 (Nat.or_lt_two_pow (n := 64) g1 (fb1_lt _)) (Nat.or_lt_two_pow (n := 64) g2 (fb2_lt _)) (Nat.or_lt_two_pow (n := 64) g3 (fb1_lt _)) (Nat.or_lt_two_pow (n := 64) g4 (fb2_lt _)) hk'
include hp
theorem xlate_Check_l1 : ∀ (m : List PB) (seen : List ByteArray) (k i : Nat), p.drop i = m → seen.length ≤ i → m.length + l.length + 1 < k →
  xlate_Check.l1 k p (p.length : Int) (i : Int) p l x v a y w b seen = some (match mtisL v w m seen i with
   | some e => e
   | none => if 256 < l.length then (5, 3, 256) else rulesL a b l 0 (0, 0) (0, 0))
 | [], seen, k, i, hd, hs, hk => by
  obtain ⟨k, rfl⟩ : ∃ m, k = m + 1 := ⟨k - 1, by omega⟩
  have := dropn hd
  rw [xlate_Check.l1_eq, if_neg (by omega), mtisL]
  by_cases c : 256 < l.length
  ·rw [if_pos (by omega), if_pos c]
  ·rw [if_neg (by omega), if_neg c]
   exact xlate_Check_l2 p l hl hr x v y w a b ha hb seen l k 0 0 0 0 0 rfl (by decide) (by decide) (by decide) (by decide) (by simp at hk; omega)
 | q :: m, seen, k, i, hd, hs, hk => by
  obtain ⟨k, rfl⟩ : ∃ m, k = m + 1 := ⟨k - 1, by omega⟩
  obtain ⟨h1, h2, h3, h4⟩ := dropc hd
  have hk' : m.length + l.length + 1 < k := by simp at hk; omega
  have hp1 := hp.1
  have hq := (hp.2 q (by have := List.drop_subset i p (a := q); rw [hd] at this; exact this (List.mem_cons_self ..))).1
  rw [xlate_Check.l1_eq, if_pos (by omega), h4, Option.bind_some, xlate_typed, Option.bind_some, mtisL]
  cases c1 : typedP q v w
  ·rw [if_pos (by simp), if_pos rfl]
  rw [if_neg (by simp), if_neg (by simp : ¬ (true = false)), if_pos (by omega)]
  by_cases c2 : q.1 ∈ seen
  ·rw [if_pos c2, if_pos c2]
  rw [if_neg c2, if_neg c2, if_pos (⟨by omega, by omega⟩ : q.1.size ≤ 9223372036854775807 ∧ seen.length < 9223372036854775807), wrap_succ (by omega)]
  exact xlate_Check_l1 m _ k (i + 1) h2 (by rw [List.length_append, List.length_singleton]; omega) hk'
theorem xlate_Check_l0 (k : Nat) (hk : p.length + l.length + 10 < k) : xlate_Check.l0 k [(x, v, a), (y, w, b)] (([(x, v, a), (y, w, b)].length : Nat) : Int) 0 p l x v a y w b = some (mapE (p, l) (x, v, a) (y, w, b)) := by
 obtain ⟨k, rfl⟩ : ∃ m, k = m + 3 := ⟨k - 3, by omega⟩
 have g0 : lget [(x, v, a), (y, w, b)] 0 = some (x, v, a) := rfl
 have g1 : lget [(x, v, a), (y, w, b)] ((1 : Nat) : Int) = some (y, w, b) := rfl
 rw [xlate_Check.l0_eq, if_pos (by simp), g0, Option.bind_some, schema_Check x v a ha, Option.bind_some, mapE]
 dsimp only
 by_cases c1 : ¬ (schemaE (x, v, a)).1 = 0
 ·rw [if_pos c1, if_pos c1]
 rw [if_neg c1, if_neg c1, show IntKind.wrap .i64 ((0 : Int) + 1) = ((1 : Nat) : Int) from wrap_succ (n := 0) (by decide), xlate_Check.l0_eq, if_pos (by simp), g1, Option.bind_some, schema_Check y w b hb, Option.bind_some]
 by_cases c2 : ¬ (schemaE (y, w, b)).1 = 0
 ·rw [if_pos c2, if_pos c2]; rfl
 rw [if_neg c2, if_neg c2, wrap_succ (by decide), xlate_Check.l0_eq, if_neg (by simp)]
 by_cases c3 : 256 < p.length
 ·rw [if_pos c3, if_pos (by omega)]
 rw [if_neg c3, if_neg (by omega)]
 exact xlate_Check_l1 p l hp hl hr x v y w a b ha hb p [] k 0 rfl (by simp) (by omega)
end
noncomputable def xlate_Check.c : Con := ⟨58, xlate_Check.sg, xlate_Check.rs, xlate_Check.f⟩
theorem xlate_Check.con : ConOk Tryz.prog xlate_Check.c := walked (C := xlate_Check.C) rfl (by kernel_rfl) (by kernel_rfl) (by kernel_rfl) rfl ⟨fields_Set_Both.con, schema_Check.con, fields_Set_Either.con, xlate_typed.con, rule_Check.con, fields_Of.con, trivial⟩ fun ⟨⟨p, l⟩, ⟨x, v, a⟩, ⟨y, w, b⟩⟩ z h => by
 have h : xlate_Check.f ((p, l), (x, v, a), (y, w, b)) = some z := h
 unfold xlate_Check.f at h
 split at h
 ·rename_i hc
  exact ⟨p.length + l.length + 11, by rw [xlate_Check.eq, ← h]; exact xlate_Check_l0 p l hc.1.1 hc.1.2.1 hc.1.2.2 x v y w a b hc.2.1 hc.2.2 _ (by omega)⟩
 ·cases h
end Go.Proofs.YtkaihbkfobiejaaGreatDoor.Xe
