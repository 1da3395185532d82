import Derived.Test.YtkaihbkfobiejaaGreatDoorZ7
import Derived.Test.YtkaihbkfobiejaaGreatDoorZ18
import Derived.Test.YtkaihbkfobiejaaGreatDoorZ6
import Derived.Test.YtkaihbkfobiejaaGreatDoorZ13
import Derived.Test.YtkaihbkfobiejaaGreatDoorZ17
import Derived.Test.YtkaihbkfobiejaaGreatDoorZ15
import Derived.Test.YtkaihbkfobiejaaGreatDoorZ9
namespace Go.Proofs.YtkaihbkfobiejaaGreatDoor.Xe
open Go Go.RowKit Go.Proofs.YtkaihbkfobiejaaGreatDoor.Sp
set_option linter.unusedVariables false
set_option linter.unusedSimpArgs false
set_option maxRecDepth 100000
theorem lenAux_log : ∀ (f x : Nat), x < 2 ^ f → Lib.bitLenAux f x = blen x
 | 0, x, h => by
  have : x = 0 := by simpa using h
  subst this; rfl
 | f + 1, x, h => by
  rw [Lib.bitLenAux]
  by_cases c : x = 0
  ·rw [if_pos c, c]; rfl
  ·rw [if_neg c, lenAux_log f (x / 2) (by rw [Nat.pow_succ] at h; omega), blen_half x (by omega)]; omega
theorem bitLen_log {x : Nat} (h : x < 18446744073709551616) : Lib.bitLen x = blen x := lenAux_log 64 x h
@[reducible] def math_bits_LeadingZeros64.sg : List Shp := [.v (.int .u64)]
@[reducible] def math_bits_LeadingZeros64.rs : Rs := .one (.v (.int .i64))
noncomputable def math_bits_LeadingZeros64.f (x : Int) : Option Int := if 0 ≤ x ∧ x < 18446744073709551616 then some (64 - (blen x.toNat : Int)) else none
noncomputable def math_bits_LeadingZeros64.c : Con := ⟨53, math_bits_LeadingZeros64.sg, math_bits_LeadingZeros64.rs, math_bits_LeadingZeros64.f⟩
theorem math_bits_LeadingZeros64.con : ConOk Tryz.prog math_bits_LeadingZeros64.c := ⟨⟨_, Tryz.func53, by kernel_rfl, by kernel_rfl⟩, fun (x : Int) y h σ w vs hf hr => by
 have h : math_bits_LeadingZeros64.f x = some y := h
 obtain ⟨v, rfl, hv⟩ : ∃ v, vs = [v] ∧ [v] = [Value.int .u64 x] := hr
 obtain rfl := (List.cons.inj hv).1
 unfold math_bits_LeadingZeros64.f at h
 split at h
 ·rename_i hc
  have h : (64 : Int) - (blen x.toNat : Int) = y := Option.some.inj h
  refine (Tryz.bits_LeadingZeros64 x w hc.1 (by omega)).mono ?_
  rintro e w' ⟨rfl, rfl⟩
  refine ⟨_, σ, rfl, Grow.refl hf, ?_⟩
  rw [bitLen_log (by omega)]
  show [Value.int .i64 _] = [Value.int .i64 y]
  rw [h]
 ·cases h⟩
theorem math_bits_LeadingZeros64 (x : Nat) (h : x < 18446744073709551616) : math_bits_LeadingZeros64.f (x : Int) = some ((64 - blen x : Nat) : Int) := by
 have hb := blen_le h
 unfold math_bits_LeadingZeros64.f
 rw [if_pos (by omega), Int.toNat_natCast]
 exact congrArg some (show (64 : Int) - (blen x : Int) = ((64 - blen x : Nat) : Int) by omega)
theorem u64_shl (x n : Nat) (hn : n ≤ 64) : IntKind.wrap IntKind.u64 ((x : Int) * 2 ^ min n 64) = ((x * 2 ^ n % 18446744073709551616 : Nat) : Int) := by
 rw [IntKind.wrap_u64, Nat.min_eq_left hn, show ((2 : Int) ^ n) = ((2 ^ n : Nat) : Int) by simp]
 generalize (2 : Nat) ^ n = y
 rw [← Int.natCast_mul]
 omega
@[reducible] def fields_Set_Next.sg : List Shp := [.a (.pair (.int .u64) (.int .u64)), .v (.int .i64)]
@[reducible] def fields_Set_Next.rs : Rs := .one (.v (.int .i64))
@[reducible] noncomputable def fields_Set_Next.code : Code := Tryz.f17.body.getD .skip
noncomputable def fields_Set_Next.C : Ctx := ⟨tab, [math_bits_LeadingZeros64.c], [], ⟨[], []⟩⟩
theorem fields_Set_Next.eq (n : Nat) (a0 a1 a2 : Int) : call fields_Set_Next.C Tryz.f17 fields_Set_Next.code fields_Set_Next.sg fields_Set_Next.rs n ((a0, a1), a2) =
 (if 0 > a2 then (if ¬IntKind.wrap .u64 (a0 * 2 ^ 0) = 0 then ((math_bits_LeadingZeros64.f (IntKind.wrap .u64 (a0 * 2 ^ 0))).bind fun b0 =>
 (some (IntKind.wrap .i64 (IntKind.wrap .i64 (0 + b0) + 1))))
 else (if ¬IntKind.wrap .u64 (a1 * 2 ^ 0) = 0 then ((math_bits_LeadingZeros64.f (IntKind.wrap .u64 (a1 * 2 ^ 0))).bind fun b1 =>
 (some (IntKind.wrap .i64 (IntKind.wrap .i64 (64 + b1) + 1))))
 else (some 0)))
 else (if a2 < 64 then (if a2 < 0 then none
 else (if ¬IntKind.wrap .u64 (a0 * 2 ^ min (Int.toNat a2) 64) = 0 then ((math_bits_LeadingZeros64.f (IntKind.wrap .u64 (a0 * 2 ^ min (Int.toNat a2) 64))).bind fun b2 =>
 (some (IntKind.wrap .i64 (IntKind.wrap .i64 (a2 + b2) + 1))))
 else (if ¬IntKind.wrap .u64 (a1 * 2 ^ 0) = 0 then ((math_bits_LeadingZeros64.f (IntKind.wrap .u64 (a1 * 2 ^ 0))).bind fun b3 =>
 (some (IntKind.wrap .i64 (IntKind.wrap .i64 (64 + b3) + 1))))
 else (some 0))))
 else (if 64 < IntKind.wrap .i64 (a2 - 64) then (if ¬IntKind.wrap .u64 (a1 * 2 ^ 64) = 0 then ((math_bits_LeadingZeros64.f (IntKind.wrap .u64 (a1 * 2 ^ 64))).bind fun b4 =>
 (some (IntKind.wrap .i64 (IntKind.wrap .i64 (a2 + b4) + 1))))
 else (some 0))
 else (if IntKind.wrap .i64 (a2 - 64) < 0 then none
 else (if ¬IntKind.wrap .u64 (a1 * 2 ^ min (Int.toNat (IntKind.wrap .i64 (a2 - 64))) 64) = 0 then ((math_bits_LeadingZeros64.f (IntKind.wrap .u64 (a1 * 2 ^ min (Int.toNat (IntKind.wrap .i64 (a2 - 64))) 64))).bind fun b5 =>
 (some (IntKind.wrap .i64 (IntKind.wrap .i64 (a2 + b5) + 1))))
 else (some 0)))))) := by kernel_rfl
noncomputable def fields_Set_Next.f : El (sgTy fields_Set_Next.sg) → Option (El fields_Set_Next.rs.ty) := fun x => match x with
 | ((a0, a1), a2) =>
 (if 0 > a2 then (if ¬IntKind.wrap IntKind.u64 (a0 * 2 ^ 0) = 0 then ((math_bits_LeadingZeros64.f (IntKind.wrap IntKind.u64 (a0 * 2 ^ 0))).bind fun b0 =>
  (some (IntKind.wrap IntKind.i64 (IntKind.wrap IntKind.i64 (0 + b0) + 1))))
  else (if ¬IntKind.wrap IntKind.u64 (a1 * 2 ^ 0) = 0 then ((math_bits_LeadingZeros64.f (IntKind.wrap IntKind.u64 (a1 * 2 ^ 0))).bind fun b1 =>
   (some (IntKind.wrap IntKind.i64 (IntKind.wrap IntKind.i64 (64 + b1) + 1))))
  else (some 0)))
 else (if a2 < 64 then (if a2 < 0 then none
  else (if ¬IntKind.wrap IntKind.u64 (a0 * 2 ^ min (Int.toNat a2) 64) = 0 then ((math_bits_LeadingZeros64.f (IntKind.wrap IntKind.u64 (a0 * 2 ^ min (Int.toNat a2) 64))).bind fun b2 =>
   (some (IntKind.wrap IntKind.i64 (IntKind.wrap IntKind.i64 (a2 + b2) + 1))))
   else (if ¬IntKind.wrap IntKind.u64 (a1 * 2 ^ 0) = 0 then ((math_bits_LeadingZeros64.f (IntKind.wrap IntKind.u64 (a1 * 2 ^ 0))).bind fun b3 =>
    (some (IntKind.wrap IntKind.i64 (IntKind.wrap IntKind.i64 (64 + b3) + 1))))
   else (some 0))))
  else (if 64 < IntKind.wrap IntKind.i64 (a2 - 64) then (if ¬IntKind.wrap IntKind.u64 (a1 * 2 ^ 64) = 0 then ((math_bits_LeadingZeros64.f (IntKind.wrap IntKind.u64 (a1 * 2 ^ 64))).bind fun b4 =>
   (some (IntKind.wrap IntKind.i64 (IntKind.wrap IntKind.i64 (a2 + b4) + 1))))
   else (some 0))
  else (if IntKind.wrap IntKind.i64 (a2 - 64) < 0 then none
   else (if ¬IntKind.wrap IntKind.u64 (a1 * 2 ^ min (Int.toNat (IntKind.wrap IntKind.i64 (a2 - 64))) 64) = 0 then ((math_bits_LeadingZeros64.f (IntKind.wrap IntKind.u64 (a1 * 2 ^ min (Int.toNat (IntKind.wrap IntKind.i64 (a2 - 64))) 64))).bind fun b5 =>
    (some (IntKind.wrap IntKind.i64 (IntKind.wrap IntKind.i64 (a2 + b5) + 1))))
   else (some 0))))))
noncomputable def fields_Set_Next.c : Con := ⟨17, fields_Set_Next.sg, fields_Set_Next.rs, fields_Set_Next.f⟩
theorem fields_Set_Next.con : ConOk Tryz.prog fields_Set_Next.c := walked (C := fields_Set_Next.C) rfl (by kernel_rfl) (by kernel_rfl) (by kernel_rfl) rfl ⟨math_bits_LeadingZeros64.con, trivial⟩ fun ⟨⟨a0, a1⟩, a2⟩ y h => ⟨0, (fields_Set_Next.eq 0 a0 a1 a2).trans h⟩
theorem next_low (h l n : Nat) (hn : 64 ≤ n) (hn2 : n ≤ 128) (m c : Int) (hm : m = ((l * 2 ^ (n - 64) % 18446744073709551616 : Nat) : Int)) (hc : c = (n : Int)) :
  (if ¬ m = 0 then (math_bits_LeadingZeros64.f m).bind fun b => some (IntKind.wrap IntKind.i64 (IntKind.wrap IntKind.i64 (c + b) + 1)) else some 0) = some (nextS h l n) := by
 subst hm; subst hc
 obtain ⟨h1, h2⟩ := from_low (h := h) (l := l) hn hn2
 unfold nextS
 have hlt : l * 2 ^ (n - 64) % 18446744073709551616 < 18446744073709551616 := Nat.mod_lt _ (by decide)
 generalize l * 2 ^ (n - 64) % 18446744073709551616 = x at *
 by_cases c : x = 0
 ·rw [if_neg (by omega), h1 c]; rfl
 ·rw [if_pos (by omega), math_bits_LeadingZeros64 x hlt, Option.bind_some, wrap_id (x := (n : Int) + _) (by omega) (by omega), wrap_id (by omega) (by omega), h2 c]
  show some _ = some (((n + (64 - blen x) + 1 : Nat)) : Int)
  congr 1
theorem fields_Set_Next (h l n : Nat) (hn : n ≤ 128) : fields_Set_Next.f (((h : Int), (l : Int)), (n : Int)) = some (nextS h l n) := by
 simp only [fields_Set_Next.f]
 rw [if_neg (show ¬ (0 : Int) > (n : Int) by omega)]
 by_cases c : n < 64
 ·obtain ⟨h1, h2⟩ := from_high (h := h) (l := l) c
  have e0 : IntKind.wrap IntKind.u64 ((l : Int) * 2 ^ 0) = ((l * 2 ^ (64 - 64) % 18446744073709551616 : Nat) : Int) := u64_shl l 0 (by decide)
  rw [if_pos (show (n : Int) < 64 by omega), if_neg (show ¬ (n : Int) < 0 by omega), Int.toNat_natCast, u64_shl h n (by omega)]
  have hlt : h * 2 ^ n % 18446744073709551616 < 18446744073709551616 := Nat.mod_lt _ (by decide)
  generalize h * 2 ^ n % 18446744073709551616 = x at *
  by_cases c2 : x = 0
  ·refine (if_neg (show ¬ ¬ ((x : Nat) : Int) = 0 by omega)).trans ?_
   refine (next_low h l 64 (by omega) (by omega) _ 64 e0 rfl).trans ?_
   unfold nextS
   rw [h1 c2]
  ·rw [if_pos (show ¬ ((x : Nat) : Int) = 0 by omega), math_bits_LeadingZeros64 x hlt, Option.bind_some, wrap_id (x := (n : Int) + _) (by omega) (by omega), wrap_id (by omega) (by omega)]
   unfold nextS
   rw [h2 c2]
   show some _ = some (((n + (64 - blen x) + 1 : Nat)) : Int)
   congr 1
 ·have w : IntKind.wrap IntKind.i64 ((n : Int) - 64) = ((n - 64 : Nat) : Int) := by rw [wrap_id (by omega) (by omega)]; omega
  rw [if_neg (show ¬ (n : Int) < 64 by omega), w, if_neg (show ¬ (64 : Int) < ((n - 64 : Nat) : Int) by omega), if_neg (show ¬ ((n - 64 : Nat) : Int) < 0 by omega), Int.toNat_natCast]
  exact next_low h l n (by omega) hn _ _ (u64_shl l (n - 64) (by omega)) rfl
@[reducible] def strict_typed.sg : List Shp := [.a zdS, .v (.str)]
@[reducible] def strict_typed.rs : Rs := .tup [.v (.str), .v (.int .i64), .v (.int .i64)]
@[reducible] noncomputable def strict_typed.code : Code := Tryz.f46.body.getD .skip
noncomputable def strict_typed.C : Ctx := ⟨tab, [bcd_Size.c, bcd_Get.c, mti_Version.c], [], ⟨[], []⟩⟩
theorem strict_typed.eq (n : Nat) (a0 a1 : Int) (a2 : List z5) (a3 : ByteArray) : call strict_typed.C Tryz.f46 strict_typed.code strict_typed.sg strict_typed.rs n ((a0, (a1, a2)), a3) =
 (if a0 = 2 then ((bcd_Size.f 4).bind fun b0 =>
 (if (a3.size : Int) < b0 then (some ((ByteArray.mk #[], 0, 2)))
 else ((ssub a3 0 b0).bind fun b1 =>
 (if a0 = 2 then ((bcd_Get.f (b1, 4)).bind fun b2 =>
 ((mti_Version.f b2.1).bind fun b3 =>
 (if ¬b3.2 = true then (some ((ByteArray.mk #[], 0, 7)))
 else (if ¬b3.1 = a1 then (some ((ByteArray.mk #[], 0, 7)))
 else (some ((b2.1, b0, 0)))))))
 else ((mti_Version.f b1).bind fun b4 =>
 (if ¬b4.2 = true then (some ((ByteArray.mk #[], 0, 7)))
 else (if ¬b4.1 = a1 then (some ((ByteArray.mk #[], 0, 7)))
 else (some ((b1, b0, 0))))))))))
 else (if (a3.size : Int) < 4 then (some ((ByteArray.mk #[], 0, 2)))
 else ((ssub a3 0 4).bind fun b5 =>
 (if a0 = 2 then ((bcd_Get.f (b5, 4)).bind fun b6 =>
 ((mti_Version.f b6.1).bind fun b7 =>
 (if ¬b7.2 = true then (some ((ByteArray.mk #[], 0, 7)))
 else (if ¬b7.1 = a1 then (some ((ByteArray.mk #[], 0, 7)))
 else (some ((b6.1, 4, 0)))))))
 else ((mti_Version.f b5).bind fun b8 =>
 (if ¬b8.2 = true then (some ((ByteArray.mk #[], 0, 7)))
 else (if ¬b8.1 = a1 then (some ((ByteArray.mk #[], 0, 7)))
 else (some ((b5, 4, 0)))))))))) := by kernel_rfl
noncomputable def strict_typed.f : El (sgTy strict_typed.sg) → Option (El strict_typed.rs.ty) := fun x => match x with
 | ((a0, (a1, a2)), a3) =>
 (if a0 = 2 then ((bcd_Size.f 4).bind fun b0 =>
  (if (↑(ByteArray.size a3) : Int) < b0 then (some ((ByteArray.mk #[], 0, 2)))
  else ((ssub a3 0 b0).bind fun b1 =>
  (if a0 = 2 then ((bcd_Get.f (b1, 4)).bind fun b2 =>
   ((mti_Version.f (Prod.fst b2)).bind fun b3 =>
   (if ¬Prod.snd b3 = true then (some ((ByteArray.mk #[], 0, 7)))
   else (if ¬Prod.fst b3 = a1 then (some ((ByteArray.mk #[], 0, 7)))
   else (some ((Prod.fst b2, b0, 0)))))))
  else ((mti_Version.f b1).bind fun b4 =>
   (if ¬Prod.snd b4 = true then (some ((ByteArray.mk #[], 0, 7)))
   else (if ¬Prod.fst b4 = a1 then (some ((ByteArray.mk #[], 0, 7)))
   else (some ((b1, b0, 0))))))))))
 else (if (↑(ByteArray.size a3) : Int) < 4 then (some ((ByteArray.mk #[], 0, 2)))
  else ((ssub a3 0 4).bind fun b5 =>
  (if a0 = 2 then ((bcd_Get.f (b5, 4)).bind fun b6 =>
   ((mti_Version.f (Prod.fst b6)).bind fun b7 =>
   (if ¬Prod.snd b7 = true then (some ((ByteArray.mk #[], 0, 7)))
   else (if ¬Prod.fst b7 = a1 then (some ((ByteArray.mk #[], 0, 7)))
   else (some ((Prod.fst b6, 4, 0)))))))
  else ((mti_Version.f b5).bind fun b8 =>
   (if ¬Prod.snd b8 = true then (some ((ByteArray.mk #[], 0, 7)))
   else (if ¬Prod.fst b8 = a1 then (some ((ByteArray.mk #[], 0, 7)))
   else (some ((b5, 4, 0))))))))))
noncomputable def strict_typed.c : Con := ⟨46, strict_typed.sg, strict_typed.rs, strict_typed.f⟩
theorem strict_typed.con : ConOk Tryz.prog strict_typed.c := walked (C := strict_typed.C) rfl (by kernel_rfl) (by kernel_rfl) (by kernel_rfl) rfl ⟨bcd_Size.con, bcd_Get.con, mti_Version.con, trivial⟩ fun ⟨⟨a0, ⟨a1, a2⟩⟩, a3⟩ y h => ⟨0, (strict_typed.eq 0 a0 a1 a2 a3).trans h⟩
theorem take_sub (b : List UInt8) (n : Nat) (h : n ≤ b.length) (c : Int) (hc : c = (n : Int)) : ssub (sb b) 0 c = some (sb (b.take n)) := by
 subst hc
 exact ssub_sb b 0 n (Nat.zero_le _) h
theorem typed_tail (t : List UInt8) (ver c : Int) : ((mti_Version.f (sb t)).bind fun b3 => if ¬Prod.snd b3 = true then some (ByteArray.mk #[], 0, 7) else if ¬Prod.fst b3 = ver then some (ByteArray.mk #[], 0, 7) else some (sb t, c, 0)) = some (if right t = true ∧ ((t.getD 0 0).toNat : Int) - 48 = ver then (sb t, c, 0) else (sb [], (0 : Int), (7 : Int))) := by
 rw [mti_Version, Option.bind_some]
 by_cases c1 : right t = true
 ·rw [if_pos c1, if_neg (not_not_intro rfl)]
  dsimp only
  by_cases c2 : ((t.getD 0 0).toNat : Int) - 48 = ver
  ·rw [if_neg (not_not_intro c2), if_pos ⟨c1, c2⟩]
  ·rw [if_pos c2, if_neg (fun q => c2 q.2)]; rfl
 ·rw [if_neg c1, if_pos (fun q => by cases q), if_neg (fun q => c1 q.1)]; rfl
theorem strict_typed (a ver : Int) (s : List S5) (b : List UInt8) : strict_typed.f ((a, ver, s), sb b) = some (sb (typeG a ver b).1, (typeG a ver b).2.1, (typeG a ver b).2.2) := by
 have hs : bcd_Size.f 4 = some 2 := bcd_Size 4 (by decide)
 simp only [strict_typed.f]
 rw [size_sb]
 unfold typeG typeN typeT
 by_cases c : a = 2
 ·rw [if_pos c, if_pos c, if_pos c, hs, Option.bind_some]
  by_cases c2 : b.length < 2
  ·rw [if_pos (by omega), if_pos c2]; rfl
  ·rw [if_neg (by omega), if_neg c2, take_sub b 2 (by omega) 2 rfl, Option.bind_some, if_pos c, bcd_Get, Option.bind_some]
   refine (typed_tail _ ver 2).trans ?_
   split <;> rfl
 ·rw [if_neg c, if_neg c, if_neg c]
  by_cases c2 : b.length < 4
  ·rw [if_pos (by omega), if_pos c2]; rfl
  ·rw [if_neg (by omega), if_neg c2, take_sub b 4 (by omega) 4 rfl, Option.bind_some, if_neg c]
   refine (typed_tail _ ver 4).trans ?_
   split <;> rfl
@[reducible] def strict_Decode.sg : List Shp := [.a zdS, .v (.str)]
@[reducible] def strict_Decode.rs : Rs := .tup [.a (.pair (.str) (.sl zdE)), .a (.pair (.int .i64) (.int .i64))]
@[reducible] noncomputable def strict_Decode.code : Code := Tryz.f13.body.getD .skip
noncomputable def strict_Decode.C : Ctx := ⟨tab, [schema_Find.c, fields_Set_Next.c, bitmap_Get.c, cell_Get.c, schema_Check.c, strict_typed.c], [], ⟨[(13, [1, 2, 4, 5, 6, 10, 12, 13], 5)], []⟩⟩
noncomputable def strict_Decode.l0 (n : Nat) (v0 : ByteArray) (v1 v2 v3 v4 : Int) (v5 : List z5) (v6 : ByteArray) (v7 v8 : Int) (v9 : ByteArray) (v10 v11 : Int) : Option (((ByteArray × List ((Int × ByteArray))) × (Int × Int))) := run strict_Decode.C (finOf strict_Decode.C Tryz.f13 strict_Decode.rs) n (todoAt 13 strict_Decode.code) ⟨zJ :: .str v0 :: .ptr 0 0 :: zJ :: .ptr 1 0 :: .ptr 2 0 :: .ptr 3 0 :: zJ :: zJ :: zJ :: .int .i64 v1 :: zJ :: .ptr 4 0 :: .int .i64 v2 :: zJ :: zJ :: zJ :: zJ :: zJ :: zK (zK (zK (zK (zK (zK (zK (zK (zK (zK (zK [])))))))))), [[.int .i64 v3, .int .i64 v4, .sl none zd5 v5], [.str v6, .nilsl], [.int .i64 v7, .int .i64 v8], [.str v9, .nilsl], [.int .u64 v10, .int .u64 v11]], []⟩
noncomputable def strict_Decode.l1 (n : Nat) (v0 : ByteArray) (v1 v2 v3 v4 : Int) (v5 : List z5) (v6 : ByteArray) (v7 v8 : Int) (v9 : ByteArray) (v10 : List zE) (v11 v12 : Int) : Option (((ByteArray × List ((Int × ByteArray))) × (Int × Int))) := run strict_Decode.C (finOf strict_Decode.C Tryz.f13 strict_Decode.rs) n (todoAt 13 strict_Decode.code) ⟨zJ :: .str v0 :: .ptr 0 0 :: zJ :: .ptr 1 0 :: .ptr 2 0 :: .ptr 3 0 :: zJ :: zJ :: zJ :: .int .i64 v1 :: zJ :: .ptr 4 0 :: .int .i64 v2 :: zJ :: zJ :: zJ :: zJ :: zJ :: zK (zK (zK (zK (zK (zK (zK (zK (zK (zK (zK [])))))))))), [[.int .i64 v3, .int .i64 v4, .sl none zd5 v5], [.str v6, .nilsl], [.int .i64 v7, .int .i64 v8], [.str v9, .sl (some 0) zdE v10], [.int .u64 v11, .int .u64 v12]], [true]⟩
theorem strict_Decode.l0_eq n v0 v1 v2 v3 v4 v5 v6 v7 v8 v9 v10 v11 : strict_Decode.l0 (n + 1) v0 v1 v2 v3 v4 v5 v6 v7 v8 v9 v10 v11 =
 (if ¬v2 = 0 then ((schema_Find.f ((v3, v4, v5), v2)).bind fun b4 =>
 (if ¬b4.2 = true then (some (((v9, []), 9, v2)))
 else ((cell_Get.f (v3, b4.1, v0, v1)).bind fun b5 =>
 (if ¬b5.2.2 = 0 then (some (((v9, []), b5.2.2, v2)))
 else ((lcat 24 [] [(v2, b5.1)]).bind fun b6 =>
 ((fields_Set_Next.f ((v10, v11), v2)).bind fun b7 =>
 (strict_Decode.l1 n v0 b5.2.1 b7 v3 v4 v5 v6 v7 v8 v9 b6 v10 v11)))))))
 else (if v1 < (v0.size : Int) then (some (((v9, []), 12, 129)))
 else (some (((v9, []), 0, 0))))) := by kernel_rfl
theorem strict_Decode.l1_eq n v0 v1 v2 v3 v4 v5 v6 v7 v8 v9 v10 v11 v12 : strict_Decode.l1 (n + 1) v0 v1 v2 v3 v4 v5 v6 v7 v8 v9 v10 v11 v12 =
 (if ¬v2 = 0 then ((schema_Find.f ((v3, v4, v5), v2)).bind fun b8 =>
 (if ¬b8.2 = true then (some (((v9, v10), 9, v2)))
 else ((cell_Get.f (v3, b8.1, v0, v1)).bind fun b9 =>
 (if ¬b9.2.2 = 0 then (some (((v9, v10), b9.2.2, v2)))
 else ((lcat 24 v10 [(v2, b9.1)]).bind fun b10 =>
 ((fields_Set_Next.f ((v11, v12), v2)).bind fun b11 =>
 (strict_Decode.l1 n v0 b9.2.1 b11 v3 v4 v5 v6 v7 v8 v9 b10 v11 v12)))))))
 else (if v1 < (v0.size : Int) then (some (((v9, v10), 12, 129)))
 else (some (((v9, v10), 0, 0))))) := by kernel_rfl
theorem strict_Decode.eq (n : Nat) (a0 a1 : Int) (a2 : List z5) (a3 : ByteArray) : call strict_Decode.C Tryz.f13 strict_Decode.code strict_Decode.sg strict_Decode.rs n ((a0, (a1, a2)), a3) =
 ((schema_Check.f (a0, a1, a2)).bind fun b0 =>
 (if ¬b0.1 = 0 then (some (((ByteArray.mk #[], []), 1, -1)))
 else ((strict_typed.f ((a0, a1, a2), a3)).bind fun b1 =>
 (if ¬b1.2.2 = 0 then (some (((ByteArray.mk #[], []), b1.2.2, 0)))
 else ((bitmap_Get.f (a0, a3, b1.2.1)).bind fun b2 =>
 (if ¬b2.2.2 = 0 then (some (((b1.1, []), b2.2.2, 1)))
 else ((fields_Set_Next.f (b2.1, 0)).bind fun b3 =>
 (strict_Decode.l0 n a3 b2.2.1 b3 a0 a1 a2 (ByteArray.mk #[]) 0 0 b1.1 b2.1.1 b2.1.2)))))))) := by kernel_rfl
noncomputable def strict_Decode.f (x : (Int × Int × List S5) × ByteArray) : Option ((ByteArray × List V) × Int × Int) := if x.1.2.2.length ≤ 1000000 ∧ x.2.size ≤ 70368744177664 ∧ x.2.size ≤ 1000000000000 then some ((sb (decM x.1 (bl x.2)).1.1, (decM x.1 (bl x.2)).1.2), (decM x.1 (bl x.2)).2) else none
theorem strict_Decode (a ver : Int) (s : List S5) (hs : s.length ≤ 1000000) (b : List UInt8) (hb : b.length ≤ 1000000000000) : strict_Decode.f ((a, ver, s), sb b) = some ((sb (decM (a, ver, s) b).1.1, (decM (a, ver, s) b).1.2), (decM (a, ver, s) b).2) := if_pos ⟨hs, by rw [size_sb]; omega, by rw [size_sb]; exact hb⟩
theorem decL_find (a ver : Int) (s : List S5) (hs : s.length ≤ 1000000) (b : List UInt8) (hb : b.length ≤ 1000000000000) (n at_ : Int) (K : List UInt8 → Int → Option ((ByteArray × List V) × Int × Int)) (t : ByteArray) (acc : List V) :
  ((schema_Find.f ((a, ver, s), n)).bind fun b8 => if ¬Prod.snd b8 = true then some ((t, acc), 9, n) else (cell_Get.f (a, Prod.fst b8, sb b, at_)).bind fun b9 => if ¬Prod.snd (Prod.snd b9) = 0 then some ((t, acc), Prod.snd (Prod.snd b9), n) else K (bl (Prod.fst b9)) (Prod.fst (Prod.snd b9))) =
  if (findS n s).2 = false then some ((t, acc), 9, n) else if (cellGet' a (findS n s).1 b at_).2.2 ≠ 0 then some ((t, acc), (cellGet' a (findS n s).1 b at_).2.2, n) else K (cellGet' a (findS n s).1 b at_).1 (cellGet' a (findS n s).1 b at_).2.1 := by
 rw [schema_Find a ver s hs, Option.bind_some]
 by_cases c : (findS n s).2 = true
 ·rw [if_neg (not_not_intro c), if_neg (show ¬ (findS n s).2 = false by rw [c]; simp)]
  have := cell_Get a (findS n s).1.1 (findS n s).1.2.1 (findS n s).1.2.2.1 (findS n s).1.2.2.2.1 (findS n s).1.2.2.2.2 b hb at_
  have this : cell_Get.f (a, Prod.fst (findS n s), sb b, at_) = some (str3 (cellGet' a (findS n s).1 b at_)) := this
  rw [this, Option.bind_some]
  by_cases c2 : (cellGet' a (findS n s).1 b at_).2.2 = 0
  ·rw [if_neg (not_not_intro c2)]
   show (if ¬ (cellGet' a (findS n s).1 b at_).2.2 = 0 then _ else _) = _
   rw [if_neg (not_not_intro c2)]; rfl
  ·rw [if_pos c2]
   show (if ¬ (cellGet' a (findS n s).1 b at_).2.2 = 0 then _ else _) = _
   rw [if_pos c2]; rfl
 ·rw [if_pos c, if_pos (by simpa using c)]
theorem strict_Decode_l1 (a ver : Int) (s : List S5) (hs : s.length ≤ 1000000) (b : List UInt8) (hb : b.length ≤ 1000000000000) (h l : Nat) (t y : ByteArray) (z1 z2 : Int) : ∀ (m : List Int) (n k : Nat) (at_ : Int) (acc : List V), n ≤ 128 → fromS h l n = m → m.length < k → acc.length + m.length ≤ 128 →
  strict_Decode.l1 k (sb b) at_ (m.headD 0) a ver s y z1 z2 t acc (h : Int) (l : Int) = some ((t, acc ++ (decL a s b m at_).1), (decL a s b m at_).2)
 | [], n, k, at_, acc, hn, hd, hk, ha => by
  obtain ⟨k, rfl⟩ : ∃ m, k = m + 1 := ⟨k - 1, by omega⟩
  rw [strict_Decode.l1_eq, if_neg (show ¬ ¬ ([] : List Int).headD 0 = 0 from not_not_intro rfl), decL, List.append_nil, size_sb]
  split <;> rfl
 | x :: m, n, k, at_, acc, hn, hd, hk, ha => by
  obtain ⟨k, rfl⟩ : ∃ m, k = m + 1 := ⟨k - 1, by omega⟩
  obtain ⟨j, rfl, h1, h2, h3⟩ := fromS_cons hn hd
  have hk' : m.length < k := by simp at hk; omega
  rw [List.length_cons] at ha
  have e0 : ((j : Int) :: m).headD 0 = (j : Int) := rfl
  rw [strict_Decode.l1_eq, e0, if_pos (by omega)]
  refine (decL_find a ver s hs b hb (j : Int) at_ (fun u v => (lcat 24 acc [((j : Int), sb u)]).bind fun b10 => (fields_Set_Next.f (((h : Int), (l : Int)), (j : Int))).bind fun b11 => strict_Decode.l1 k (sb b) v b11 a ver s y z1 z2 t b10 (h : Int) (l : Int)) t acc).trans ?_
  rw [decL]
  by_cases c : (findS (j : Int) s).2 = false
  ·rw [if_pos c, if_pos c, List.append_nil]
  rw [if_neg c, if_neg c]
  by_cases c2 : (cellGet' a (findS (j : Int) s).1 b at_).2.2 = 0
  ·rw [if_neg (not_not_intro c2), if_neg (not_not_intro c2)]
   dsimp only
   rw [lcat_ok _ _ _ (by simp only [List.length_cons, List.length_nil]; omega), Option.bind_some, fields_Set_Next h l j h2, Option.bind_some]
   unfold nextS
   rw [← h3, strict_Decode_l1 a ver s hs b hb h l t y z1 z2 m j k _ (acc ++ [((j : Int), sb (cellGet' a (findS (j : Int) s).1 b at_).1)]) h2 h3.symm hk' (by rw [List.length_append]; simp only [List.length_cons, List.length_nil]; omega)]
   simp
  ·rw [if_pos c2, if_pos c2, List.append_nil]
theorem strict_Decode_l0 (a ver : Int) (s : List S5) (hs : s.length ≤ 1000000) (b : List UInt8) (hb : b.length ≤ 1000000000000) (h l : Nat) (t y : ByteArray) (z1 z2 : Int) (k : Nat) (at_ : Int) (hk : 130 ≤ k) :
  strict_Decode.l0 k (sb b) at_ ((fromS h l 0).headD 0) a ver s y z1 z2 t (h : Int) (l : Int) = some ((t, (decL a s b (fromS h l 0) at_).1), (decL a s b (fromS h l 0) at_).2) := by
 obtain ⟨k, rfl⟩ : ∃ m, k = m + 1 := ⟨k - 1, by omega⟩
 have hlen := fromS_length h l 0
 cases hd : fromS h l 0 with
 | nil =>
  rw [strict_Decode.l0_eq, if_neg (show ¬ ¬ ([] : List Int).headD 0 = 0 from not_not_intro rfl), decL, size_sb]
  split <;> rfl
 | cons x m =>
  rw [hd, List.length_cons] at hlen
  obtain ⟨j, rfl, h1, h2, h3⟩ := fromS_cons (by omega) hd
  have e0 : ((j : Int) :: m).headD 0 = (j : Int) := rfl
  rw [strict_Decode.l0_eq, e0, if_pos (by omega)]
  refine (decL_find a ver s hs b hb (j : Int) at_ (fun u v => (lcat 24 [] [((j : Int), sb u)]).bind fun b10 => (fields_Set_Next.f (((h : Int), (l : Int)), (j : Int))).bind fun b11 => strict_Decode.l1 k (sb b) v b11 a ver s y z1 z2 t b10 (h : Int) (l : Int)) t []).trans ?_
  rw [decL]
  by_cases c : (findS (j : Int) s).2 = false
  ·rw [if_pos c, if_pos c]
  rw [if_neg c, if_neg c]
  by_cases c2 : (cellGet' a (findS (j : Int) s).1 b at_).2.2 = 0
  ·rw [if_neg (not_not_intro c2), if_neg (not_not_intro c2)]
   dsimp only
   rw [lcat_ok _ _ _ (by simp), Option.bind_some, fields_Set_Next h l j h2, Option.bind_some]
   unfold nextS
   rw [← h3, List.nil_append, strict_Decode_l1 a ver s hs b hb h l t y z1 z2 m j k _ [((j : Int), sb (cellGet' a (findS (j : Int) s).1 b at_).1)] h2 h3.symm (by omega) (by simp only [List.length_cons, List.length_nil]; omega)]
   rfl
  ·rw [if_pos c2, if_pos c2]
theorem strict_Decode.run (a ver : Int) (s : List S5) (hs : s.length ≤ 1000000) (b : List UInt8) (hb : b.length ≤ 1000000000000) : call strict_Decode.C Tryz.f13 strict_Decode.code strict_Decode.sg strict_Decode.rs 140 ((a, ver, s), sb b) = some ((sb (decM (a, ver, s) b).1.1, (decM (a, ver, s) b).1.2), (decM (a, ver, s) b).2) := by
 rw [strict_Decode.eq, schema_Check a ver s hs, Option.bind_some]
 unfold decM
 by_cases c1 : (schemaE (a, ver, s)).1 = 0
 ·rw [if_neg (not_not_intro c1), if_neg (not_not_intro c1), strict_typed, Option.bind_some]
  dsimp only
  by_cases c2 : (typeG a ver b).2.2 = 0
  ·rw [if_neg (not_not_intro c2), if_neg (not_not_intro c2), bitmap_Get a b (by omega), Option.bind_some]
   dsimp only
   by_cases c3 : (bitGet a b (typeG a ver b).2.1).2.2 = 0
   ·rw [if_neg (not_not_intro c3), if_neg (not_not_intro c3), show (0 : Int) = ((0 : Nat) : Int) from rfl, fields_Set_Next _ _ 0 (by omega), Option.bind_some]
    exact strict_Decode_l0 a ver s hs b hb _ _ _ _ _ _ 140 _ (by omega)
   ·rw [if_pos c3, if_pos c3]
  ·rw [if_pos c2, if_pos c2]; rfl
 ·rw [if_pos c1, if_pos c1]; rfl
noncomputable def strict_Decode.c : Con := ⟨13, strict_Decode.sg, strict_Decode.rs, strict_Decode.f⟩
theorem strict_Decode.con : ConOk Tryz.prog strict_Decode.c := walked (C := strict_Decode.C) rfl (by kernel_rfl) (by kernel_rfl) (by kernel_rfl) rfl ⟨schema_Find.con, fields_Set_Next.con, bitmap_Get.con, cell_Get.con, schema_Check.con, strict_typed.con, trivial⟩ fun ⟨⟨a, ver, s⟩, b⟩ y h => by
 obtain ⟨b, rfl⟩ := ex_sb b
 have h : strict_Decode.f ((a, ver, s), sb b) = some y := h
 unfold strict_Decode.f at h
 split at h
 ·rename_i hc
  obtain ⟨h1, h2, h3⟩ := hc
  have h3 : (sb b).size ≤ 1000000000000 := h3
  rw [size_sb] at h3
  exact ⟨140, (strict_Decode.run a ver s h1 b h3).trans h⟩
 ·cases h
@[reducible] def route_Check.sg : List Shp := [.a zdG]
@[reducible] def route_Check.rs : Rs := .tup [.v (.int .i64), .v (.int .i64), .v (.int .i64)]
@[reducible] noncomputable def route_Check.code : Code := Tryz.f69.body.getD .skip
noncomputable def route_Check.C : Ctx := ⟨tab, [xlate_Check.c, reject_Check.c], [], ⟨[(4, [1, 22, 23], 1)], []⟩⟩
noncomputable def route_Check.l0 (n : Nat) (v0 v1 : Int) (v2 : List z5) (v3 : List zP) (v4 : List zR) (v5 : List Int) (v6 : List zE) (v7 v8 : Int) (v9 : List z5) (v10 : List zP) (v11 : List zR) (v12 : List Int) (v13 : List zE) (v14 v15 v16 : Int) (v17 : List z5) (v18 : List zP) (v19 : List zR) (v20 : List Int) (v21 : List zE) (v22 v23 : Int) (v24 : List z5) (v25 : List zP) (v26 : List zR) (v27 : List Int) (v28 : List zE) (v29 : Int) : Option ((Int × (Int × Int))) := run route_Check.C (finOf route_Check.C Tryz.f69 route_Check.rs) n (todoAt 4 route_Check.code) ⟨zJ :: .ptr 0 0 :: zJ :: zJ :: zJ :: zJ :: zK (zK (.agg [.int .i64 v0, .int .i64 v1, .sl none zd5 v2, .sl none zdP v3, .sl none zdR v4, .sl none (.int .i64) v5, .sl none zdE v6, .int .i64 v7, .int .i64 v8, .sl none zd5 v9, .sl none zdP v10, .sl none zdR v11, .sl none (.int .i64) v12, .sl none zdE v13] :: .int .i64 v14 :: zJ :: zK (zK (zK (zK []))))), [[.int .i64 v15, .int .i64 v16, .sl none zd5 v17, .sl none zdP v18, .sl none zdR v19, .sl none (.int .i64) v20, .sl none zdE v21, .int .i64 v22, .int .i64 v23, .sl none zd5 v24, .sl none zdP v25, .sl none zdR v26, .sl none (.int .i64) v27, .sl none zdE v28, .int .i64 v29]], []⟩
theorem route_Check.l0_eq n v0 v1 v2 v3 v4 v5 v6 v7 v8 v9 v10 v11 v12 v13 v14 v15 v16 v17 v18 v19 v20 v21 v22 v23 v24 v25 v26 v27 v28 v29 : route_Check.l0 (n + 1) v0 v1 v2 v3 v4 v5 v6 v7 v8 v9 v10 v11 v12 v13 v14 v15 v16 v17 v18 v19 v20 v21 v22 v23 v24 v25 v26 v27 v28 v29 =
 (if v14 < 2 then (if v14 = 0 then ((reject_Check.f ((v0, v1, v2), (v3, v4), v5, v6)).bind fun b0 =>
 (if ¬b0.1 = 0 then (some ((b0.1, v14, 1)))
 else (if IntKind.wrap .i64 (1 - v14) = 0 then ((xlate_Check.f ((v3, v4), (v0, v1, v2), v15, v16, v17)).bind fun b1 =>
 (if ¬b1.1 = 0 then (some ((b1.1, v14, 2)))
 else (route_Check.l0 n v0 v1 v2 v3 v4 v5 v6 v7 v8 v9 v10 v11 v12 v13 (IntKind.wrap .i64 (v14 + 1)) v15 v16 v17 v18 v19 v20 v21 v22 v23 v24 v25 v26 v27 v28 v29)))
 else (if IntKind.wrap .i64 (1 - v14) = (↑1 : Int) then ((xlate_Check.f ((v3, v4), (v0, v1, v2), v22, v23, v24)).bind fun b2 =>
 (if ¬b2.1 = 0 then (some ((b2.1, v14, 2)))
 else (route_Check.l0 n v0 v1 v2 v3 v4 v5 v6 v7 v8 v9 v10 v11 v12 v13 (IntKind.wrap .i64 (v14 + 1)) v15 v16 v17 v18 v19 v20 v21 v22 v23 v24 v25 v26 v27 v28 v29)))
 else none))))
 else (if v14 = (↑1 : Int) then ((reject_Check.f ((v7, v8, v9), (v10, v11), v12, v13)).bind fun b3 =>
 (if ¬b3.1 = 0 then (some ((b3.1, v14, 1)))
 else (if IntKind.wrap .i64 (1 - v14) = 0 then ((xlate_Check.f ((v10, v11), (v7, v8, v9), v15, v16, v17)).bind fun b4 =>
 (if ¬b4.1 = 0 then (some ((b4.1, v14, 2)))
 else (route_Check.l0 n v0 v1 v2 v3 v4 v5 v6 v7 v8 v9 v10 v11 v12 v13 (IntKind.wrap .i64 (v14 + 1)) v15 v16 v17 v18 v19 v20 v21 v22 v23 v24 v25 v26 v27 v28 v29)))
 else (if IntKind.wrap .i64 (1 - v14) = (↑1 : Int) then ((xlate_Check.f ((v10, v11), (v7, v8, v9), v22, v23, v24)).bind fun b5 =>
 (if ¬b5.1 = 0 then (some ((b5.1, v14, 2)))
 else (route_Check.l0 n v0 v1 v2 v3 v4 v5 v6 v7 v8 v9 v10 v11 v12 v13 (IntKind.wrap .i64 (v14 + 1)) v15 v16 v17 v18 v19 v20 v21 v22 v23 v24 v25 v26 v27 v28 v29)))
 else none))))
 else none))
 else (some ((0, 0, 0)))) := by kernel_rfl
theorem route_Check.eq (n : Nat) (a0 a1 : Int) (a2 : List z5) (a3 : List zP) (a4 : List zR) (a5 : List Int) (a6 : List zE) (a7 a8 : Int) (a9 : List z5) (a10 : List zP) (a11 : List zR) (a12 : List Int) (a13 : List zE) (a14 : Int) : call route_Check.C Tryz.f69 route_Check.code route_Check.sg route_Check.rs n ((((a0, (a1, a2)), ((a3, a4), (a5, a6))), ((a7, (a8, a9)), ((a10, a11), (a12, a13)))), a14) =
 (if a14 < 1 then (some ((5, 2, 0)))
 else (if a14 > 65535 then (some ((5, 2, 0)))
 else (route_Check.l0 n a0 a1 a2 a3 a4 a5 a6 a7 a8 a9 a10 a11 a12 a13 0 a0 a1 a2 a3 a4 a5 a6 a7 a8 a9 a10 a11 a12 a13 a14))) := by kernel_rfl
noncomputable def route_Check.f : El (sgTy route_Check.sg) → Option (El route_Check.rs.ty) := fun x => call route_Check.C Tryz.f69 route_Check.code route_Check.sg route_Check.rs 3 x
noncomputable def route_Check.c : Con := ⟨69, route_Check.sg, route_Check.rs, route_Check.f⟩
theorem route_Check.con : ConOk Tryz.prog route_Check.c := walked (C := route_Check.C) rfl (by kernel_rfl) (by kernel_rfl) (by kernel_rfl) rfl ⟨xlate_Check.con, reject_Check.con, trivial⟩ fun x y h => ⟨3, h⟩
@[reducible] def route_Outcome_1.sg : List Shp := [.a (.pair (.str) (.sl zdE)), .a (.pair (.int .i64) (.int .i64)), .p zdK, .p zdG]
@[reducible] def route_Outcome_1.rs : Rs := .tup [.v (.int .i64), .v (.str)]
@[reducible] noncomputable def route_Outcome_1.code : Code := Tryz.f76.body.getD .skip
noncomputable def route_Outcome_1.C : Ctx := ⟨tab, [wire_Encode.c, reject_Build.c], [], ⟨[], []⟩⟩
theorem route_Outcome_1.eq (n : Nat) (a0 : ByteArray) (a1 : List zE) (a2 a3 a4 a5 : Int) (a6 : List z5) (a7 : List zP) (a8 : List zR) (a9 : List Int) (a10 : List zE) (a11 a12 : Int) (a13 : List z5) (a14 : List zP) (a15 : List zR) (a16 : List Int) (a17 : List zE) (a18 a19 : Int) (a20 : List z5) (a21 : List zP) (a22 : List zR) (a23 : List Int) (a24 : List zE) (a25 : Int) : call route_Outcome_1.C Tryz.f76 route_Outcome_1.code route_Outcome_1.sg route_Outcome_1.rs n ((a0, a1), ((a2, a3), (((a4, (a5, a6)), ((a7, a8), (a9, a10))), ((((a11, (a12, a13)), ((a14, a15), (a16, a17))), ((a18, (a19, a20)), ((a21, a22), (a23, a24)))), a25)))) =
 ((reject_Build.f (((a4, a5, a6), (a7, a8), a9, a10), (a0, a1), a2, a3)).bind fun b0 =>
 (if ¬b0.2 = true then (some ((3, ByteArray.mk #[])))
 else ((wire_Encode.f ((a4, a5, a6), b0.1)).bind fun b1 =>
 (if b1.1 = ByteArray.mk #[] then (some ((3, ByteArray.mk #[])))
 else (if (b1.1.size : Int) > a25 then (some ((3, ByteArray.mk #[])))
 else (some ((2, b1.1)))))))) := by kernel_rfl
noncomputable def route_Outcome_1.f : El (sgTy route_Outcome_1.sg) → Option (El route_Outcome_1.rs.ty) := fun x => match x with
 | ((a0, a1), ((a2, a3), (((a4, (a5, a6)), ((a7, a8), (a9, a10))), ((((a11, (a12, a13)), ((a14, a15), (a16, a17))), ((a18, (a19, a20)), ((a21, a22), (a23, a24)))), a25)))) =>
 ((reject_Build.f (((a4, a5, a6), (a7, a8), a9, a10), (a0, a1), a2, a3)).bind fun b0 =>
 (if ¬Prod.snd b0 = true then (some ((3, ByteArray.mk #[])))
 else ((wire_Encode.f ((a4, a5, a6), Prod.fst b0)).bind fun b1 =>
  (if Prod.fst b1 = ByteArray.mk #[] then (some ((3, ByteArray.mk #[])))
  else (if (↑(ByteArray.size (Prod.fst b1)) : Int) > a25 then (some ((3, ByteArray.mk #[])))
  else (some ((2, Prod.fst b1))))))))
noncomputable def route_Outcome_1.c : Con := ⟨76, route_Outcome_1.sg, route_Outcome_1.rs, route_Outcome_1.f⟩
theorem route_Outcome_1.con : ConOk Tryz.prog route_Outcome_1.c := walked (C := route_Outcome_1.C) rfl (by kernel_rfl) (by kernel_rfl) (by kernel_rfl) rfl ⟨wire_Encode.con, reject_Build.con, trivial⟩ fun ⟨⟨a0, a1⟩, ⟨⟨a2, a3⟩, ⟨⟨⟨a4, ⟨a5, a6⟩⟩, ⟨⟨a7, a8⟩, ⟨a9, a10⟩⟩⟩, ⟨⟨⟨⟨a11, ⟨a12, a13⟩⟩, ⟨⟨a14, a15⟩, ⟨a16, a17⟩⟩⟩, ⟨⟨a18, ⟨a19, a20⟩⟩, ⟨⟨a21, a22⟩, ⟨a23, a24⟩⟩⟩⟩, a25⟩⟩⟩⟩ y h => ⟨0, (route_Outcome_1.eq 0 a0 a1 a2 a3 a4 a5 a6 a7 a8 a9 a10 a11 a12 a13 a14 a15 a16 a17 a18 a19 a20 a21 a22 a23 a24 a25).trans h⟩
@[reducible] def route_Outcome.sg : List Shp := [.a zdG, .v (.int .i64), .v (.str)]
@[reducible] def route_Outcome.rs : Rs := .tup [.v (.int .i64), .v (.str)]
@[reducible] noncomputable def route_Outcome.code : Code := Tryz.f35.body.getD .skip
noncomputable def route_Outcome.C : Ctx := ⟨tab, [wire_Encode.c, strict_Decode.c, xlate_Translate.c, route_Check.c, route_Outcome_1.c], [], ⟨[], []⟩⟩
theorem route_Outcome.eq (n : Nat) (a0 a1 : Int) (a2 : List z5) (a3 : List zP) (a4 : List zR) (a5 : List Int) (a6 : List zE) (a7 a8 : Int) (a9 : List z5) (a10 : List zP) (a11 : List zR) (a12 : List Int) (a13 : List zE) (a14 a15 : Int) (a16 : ByteArray) : call route_Outcome.C Tryz.f35 route_Outcome.code route_Outcome.sg route_Outcome.rs n (((((a0, (a1, a2)), ((a3, a4), (a5, a6))), ((a7, (a8, a9)), ((a10, a11), (a12, a13)))), a14), (a15, a16)) =
 ((route_Check.f ((((a0, a1, a2), (a3, a4), a5, a6), (a7, a8, a9), (a10, a11), a12, a13), a14)).bind fun b0 =>
 (if ¬b0.1 = 0 then (some ((0, ByteArray.mk #[])))
 else (if a15 < 0 then (some ((0, ByteArray.mk #[])))
 else (if a15 > 1 then (some ((0, ByteArray.mk #[])))
 else (if a15 = 0 then (if IntKind.wrap .i64 (1 - a15) = 0 then ((strict_Decode.f ((a0, a1, a2), a16)).bind fun b1 =>
 (if ¬b1.2.1 = 0 then ((route_Outcome_1.f (b1.1, b1.2, ((a0, a1, a2), (a3, a4), a5, a6), (((a0, a1, a2), (a3, a4), a5, a6), (a7, a8, a9), (a10, a11), a12, a13), a14)).bind fun b2 =>
 (some b2))
 else ((xlate_Translate.f ((a3, a4), (a0, a1, a2), (a0, a1, a2), b1.1)).bind fun b3 =>
 (if ¬b3.2.1 = 0 then ((route_Outcome_1.f (b1.1, b3.2, ((a0, a1, a2), (a3, a4), a5, a6), (((a0, a1, a2), (a3, a4), a5, a6), (a7, a8, a9), (a10, a11), a12, a13), a14)).bind fun b4 =>
 (some b4))
 else ((wire_Encode.f ((a0, a1, a2), b3.1)).bind fun b5 =>
 (if (b5.1.size : Int) > a14 then ((route_Outcome_1.f (b1.1, (5, 129), ((a0, a1, a2), (a3, a4), a5, a6), (((a0, a1, a2), (a3, a4), a5, a6), (a7, a8, a9), (a10, a11), a12, a13), a14)).bind fun b6 =>
 (some b6))
 else (some ((1, b5.1)))))))))
 else (if IntKind.wrap .i64 (1 - a15) = (↑1 : Int) then ((strict_Decode.f ((a0, a1, a2), a16)).bind fun b7 =>
 (if ¬b7.2.1 = 0 then ((route_Outcome_1.f (b7.1, b7.2, ((a0, a1, a2), (a3, a4), a5, a6), (((a0, a1, a2), (a3, a4), a5, a6), (a7, a8, a9), (a10, a11), a12, a13), a14)).bind fun b8 =>
 (some b8))
 else ((xlate_Translate.f ((a3, a4), (a0, a1, a2), (a7, a8, a9), b7.1)).bind fun b9 =>
 (if ¬b9.2.1 = 0 then ((route_Outcome_1.f (b7.1, b9.2, ((a0, a1, a2), (a3, a4), a5, a6), (((a0, a1, a2), (a3, a4), a5, a6), (a7, a8, a9), (a10, a11), a12, a13), a14)).bind fun b10 =>
 (some b10))
 else ((wire_Encode.f ((a7, a8, a9), b9.1)).bind fun b11 =>
 (if (b11.1.size : Int) > a14 then ((route_Outcome_1.f (b7.1, (5, 129), ((a0, a1, a2), (a3, a4), a5, a6), (((a0, a1, a2), (a3, a4), a5, a6), (a7, a8, a9), (a10, a11), a12, a13), a14)).bind fun b12 =>
 (some b12))
 else (some ((1, b11.1)))))))))
 else none))
 else (if a15 = (↑1 : Int) then (if IntKind.wrap .i64 (1 - a15) = 0 then ((strict_Decode.f ((a7, a8, a9), a16)).bind fun b13 =>
 (if ¬b13.2.1 = 0 then ((route_Outcome_1.f (b13.1, b13.2, ((a7, a8, a9), (a10, a11), a12, a13), (((a0, a1, a2), (a3, a4), a5, a6), (a7, a8, a9), (a10, a11), a12, a13), a14)).bind fun b14 =>
 (some b14))
 else ((xlate_Translate.f ((a10, a11), (a7, a8, a9), (a0, a1, a2), b13.1)).bind fun b15 =>
 (if ¬b15.2.1 = 0 then ((route_Outcome_1.f (b13.1, b15.2, ((a7, a8, a9), (a10, a11), a12, a13), (((a0, a1, a2), (a3, a4), a5, a6), (a7, a8, a9), (a10, a11), a12, a13), a14)).bind fun b16 =>
 (some b16))
 else ((wire_Encode.f ((a0, a1, a2), b15.1)).bind fun b17 =>
 (if (b17.1.size : Int) > a14 then ((route_Outcome_1.f (b13.1, (5, 129), ((a7, a8, a9), (a10, a11), a12, a13), (((a0, a1, a2), (a3, a4), a5, a6), (a7, a8, a9), (a10, a11), a12, a13), a14)).bind fun b18 =>
 (some b18))
 else (some ((1, b17.1)))))))))
 else (if IntKind.wrap .i64 (1 - a15) = (↑1 : Int) then ((strict_Decode.f ((a7, a8, a9), a16)).bind fun b19 =>
 (if ¬b19.2.1 = 0 then ((route_Outcome_1.f (b19.1, b19.2, ((a7, a8, a9), (a10, a11), a12, a13), (((a0, a1, a2), (a3, a4), a5, a6), (a7, a8, a9), (a10, a11), a12, a13), a14)).bind fun b20 =>
 (some b20))
 else ((xlate_Translate.f ((a10, a11), (a7, a8, a9), (a7, a8, a9), b19.1)).bind fun b21 =>
 (if ¬b21.2.1 = 0 then ((route_Outcome_1.f (b19.1, b21.2, ((a7, a8, a9), (a10, a11), a12, a13), (((a0, a1, a2), (a3, a4), a5, a6), (a7, a8, a9), (a10, a11), a12, a13), a14)).bind fun b22 =>
 (some b22))
 else ((wire_Encode.f ((a7, a8, a9), b21.1)).bind fun b23 =>
 (if (b23.1.size : Int) > a14 then ((route_Outcome_1.f (b19.1, (5, 129), ((a7, a8, a9), (a10, a11), a12, a13), (((a0, a1, a2), (a3, a4), a5, a6), (a7, a8, a9), (a10, a11), a12, a13), a14)).bind fun b24 =>
 (some b24))
 else (some ((1, b23.1)))))))))
 else none))
 else none)))))) := by kernel_rfl
noncomputable def route_Outcome.f : El (sgTy route_Outcome.sg) → Option (El route_Outcome.rs.ty) := fun x => call route_Outcome.C Tryz.f35 route_Outcome.code route_Outcome.sg route_Outcome.rs 0 x
noncomputable def route_Outcome.c : Con := ⟨35, route_Outcome.sg, route_Outcome.rs, route_Outcome.f⟩
theorem route_Outcome.con : ConOk Tryz.prog route_Outcome.c := walked (C := route_Outcome.C) rfl (by kernel_rfl) (by kernel_rfl) (by kernel_rfl) rfl ⟨wire_Encode.con, strict_Decode.con, xlate_Translate.con, route_Check.con, route_Outcome_1.con, trivial⟩ fun x y h => ⟨0, h⟩
def liveB : ByteArray := ByteArray.mk #[48, 56, 48, 48, 48, 48, 50, 48, 48, 48, 48, 48, 48, 48, 48, 48, 48, 48, 48, 48, 48, 48, 48, 48, 48, 49]
def liveM : ByteArray × List (Int × ByteArray) := (ByteArray.mk #[48, 56, 48, 48], [(11, ByteArray.mk #[48, 48, 48, 48, 48, 49])])
theorem live1 : r14_Schema.f 0 = some (1, 0, schema0) := by kernel_rfl
theorem live2 : wire_Encode.f ((1, 0, schema0), liveM) = some (liveB, (0, 0)) := by kernel_rfl
theorem live3 : strict_Decode.f ((1, 0, schema0), liveB) = some (liveM, (0, 0)) := by kernel_rfl
def liveY : ByteArray × List (Int × ByteArray) := (ByteArray.mk #[49, 56, 48, 52], [(11, ByteArray.mk #[48, 48, 48, 48, 48, 49]), (26, ByteArray.mk #[53, 57, 57, 57])])
def liveC : ByteArray := ByteArray.mk #[24, 4, 0, 32, 0, 64, 0, 0, 0, 0, 0, 0, 1, 89, 153]
def liveE : ByteArray := ByteArray.mk #[48, 56, 48, 48, 48, 48, 50, 48, 48, 48, 48, 48, 48, 48, 48, 48, 48, 48, 48, 48, 48, 48, 48, 48, 48, 49, 48]
def liveR : ByteArray × List (Int × ByteArray) := (ByteArray.mk #[48, 56, 49, 48], [(11, ByteArray.mk #[48, 48, 48, 48, 48, 49]), (39, ByteArray.mk #[51, 48])])
def liveD : ByteArray := ByteArray.mk #[48, 56, 49, 48, 48, 48, 50, 48, 48, 48, 48, 48, 48, 50, 48, 48, 48, 48, 48, 48, 48, 48, 48, 48, 48, 49, 51, 48]
theorem live4 : xlate_Translate.f ((types0, rules0), (1, 0, schema0), (2, 1, schema1), liveM) = some (liveY, (0, 0)) := by kernel_rfl
theorem live5 : wire_Encode.f ((2, 1, schema1), liveY) = some (liveC, (0, 0)) := by kernel_rfl
theorem live6 : strict_Decode.f ((1, 0, schema0), liveE) = some (liveM, (12, 129)) := by kernel_rfl
theorem live7 : reject_Build.f (side0, liveM, (12, 129)) = some (liveR, true) := by kernel_rfl
theorem live8 : wire_Encode.f ((1, 0, schema0), liveR) = some (liveD, (0, 0)) := by kernel_rfl
theorem live9 : route_Check.f builtV = some (0, 0, 0) := by
 have e1 : reject_Check.f side0 = some (0, 0, 0) := by kernel_rfl
 have e2 : reject_Check.f side1 = some (0, 0, 0) := by kernel_rfl
 have e3 : xlate_Check.f ((types0, rules0), (1, 0, schema0), (2, 1, schema1)) = some (0, 0, 0) := by kernel_rfl
 have e4 : xlate_Check.f ((types1, rules1), (2, 1, schema1), (1, 0, schema0)) = some (0, 0, 0) := by kernel_rfl
 have w0 : IntKind.wrap .i64 (1 - (0 : Int)) = (↑1 : Int) := by decide
 have w1 : IntKind.wrap .i64 (1 - (1 : Int)) = 0 := by decide
 have w2 : IntKind.wrap .i64 ((0 : Int) + 1) = 1 := by decide
 have w3 : IntKind.wrap .i64 ((1 : Int) + 1) = 2 := by decide
 refine (route_Check.eq 3 1 0 schema0 types0 rules0 echoV codes0 2 1 schema1 types1 rules1 echoV codes1 4096).trans ?_
 rw [if_neg (by decide), if_neg (by decide), route_Check.l0_eq, if_pos (by decide), if_pos rfl]
 rw [show reject_Check.f ((1, 0, schema0), (types0, rules0), echoV, codes0) = _ from e1, Option.bind_some, if_neg (by decide), if_neg (by decide), if_pos w0, e3, Option.bind_some, if_neg (by decide)]
 rw [w2, route_Check.l0_eq, if_pos (by decide), if_neg (by decide), if_pos (by decide)]
 rw [show reject_Check.f ((2, 1, schema1), (types1, rules1), echoV, codes1) = _ from e2, Option.bind_some, if_neg (by decide), if_pos w1, e4, Option.bind_some, if_neg (by decide)]
 rw [w3, route_Check.l0_eq, if_neg (by decide)]
theorem live10 : route_Outcome.f (builtV, 0, liveB) = some (1, liveC) := by
 refine (route_Outcome.eq 0 1 0 schema0 types0 rules0 echoV codes0 2 1 schema1 types1 rules1 echoV codes1 4096 0 liveB).trans ?_
 rw [show route_Check.f ((((1, 0, schema0), (types0, rules0), echoV, codes0), (2, 1, schema1), (types1, rules1), echoV, codes1), 4096) = _ from live9, Option.bind_some, if_neg (by decide), if_neg (by decide), if_neg (by decide), if_pos rfl, if_neg (by decide), if_pos (by decide), live3, Option.bind_some, if_neg (by decide), live4, Option.bind_some, if_neg (by decide), live5, Option.bind_some, if_neg (by decide)]
theorem live11 : route_Outcome.f (builtV, 0, liveE) = some (2, liveD) := by
 refine (route_Outcome.eq 0 1 0 schema0 types0 rules0 echoV codes0 2 1 schema1 types1 rules1 echoV codes1 4096 0 liveE).trans ?_
 rw [show route_Check.f ((((1, 0, schema0), (types0, rules0), echoV, codes0), (2, 1, schema1), (types1, rules1), echoV, codes1), 4096) = _ from live9, Option.bind_some, if_neg (by decide), if_neg (by decide), if_neg (by decide), if_pos rfl, if_neg (by decide), if_pos (by decide), live6, Option.bind_some, if_pos (by decide)]
 have e : route_Outcome_1.f (liveM, (12, 129), ((1, 0, schema0), (types0, rules0), echoV, codes0), (((1, 0, schema0), (types0, rules0), echoV, codes0), (2, 1, schema1), (types1, rules1), echoV, codes1), 4096) = some (2, liveD) := by
  simp only [route_Outcome_1.f]
  rw [show reject_Build.f (((1, 0, schema0), (types0, rules0), echoV, codes0), (liveM.1, liveM.2), (12, 129).1, (12, 129).2) = _ from live7, Option.bind_some, if_neg (by decide)]
  dsimp only
  rw [live8, Option.bind_some, if_neg (by decide), if_neg (by decide)]
 rw [e, Option.bind_some]
@[reducible] def groattop_live.sg : List Shp := []
@[reducible] def groattop_live.rs : Rs := .one (.v (.bool))
@[reducible] noncomputable def groattop_live.code : Code := Tryz.f8.body.getD .skip
noncomputable def groattop_live.C : Ctx := ⟨tab, [wire_Encode.c, strict_Decode.c, r14_Schema.c, route_Outcome.c, r24_Built.c], [], ⟨[], []⟩⟩
theorem groattop_live.eq (n : Nat)  : call groattop_live.C Tryz.f8 groattop_live.code groattop_live.sg groattop_live.rs n () =
 ((r14_Schema.f 0).bind fun b0 =>
 ((wire_Encode.f (b0, ByteArray.mk #[48, 56, 48, 48], [(11, ByteArray.mk #[48, 48, 48, 48, 48, 49])])).bind fun b1 =>
 ((strict_Decode.f (b0, b1.1)).bind fun b2 =>
 ((r24_Built.f ()).bind fun b3 =>
 ((route_Outcome.f (b3, 0, b1.1)).bind fun b4 =>
 ((r24_Built.f ()).bind fun b5 =>
 ((scat b1.1 (ByteArray.mk #[48])).bind fun b6 =>
 ((route_Outcome.f (b5, 0, b6)).bind fun b7 =>
 (if b1.1 = ByteArray.mk #[48, 56, 48, 48, 48, 48, 50, 48, 48, 48, 48, 48, 48, 48, 48, 48, 48, 48, 48, 48, 48, 48, 48, 48, 48, 49] then (if b1.2.1 = 0 ∧ b1.2.2 = 0 ∧ True then (if (b2.1.2.length : Int) = 1 then (if b2.2.1 = 0 ∧ b2.2.2 = 0 ∧ True then (if b4.1 = 1 then (if (b4.2.size : Int) = 15 then (if b7.1 = 2 then (some (decide (b7.2 = ByteArray.mk #[48, 56, 49, 48, 48, 48, 50, 48, 48, 48, 48, 48, 48, 50, 48, 48, 48, 48, 48, 48, 48, 48, 48, 48, 48, 49, 51, 48])))
 else (some false))
 else (some false))
 else (some false))
 else (some false))
 else (some false))
 else (some false))
 else (some false)))))))))) := by kernel_rfl
def groattop_live.f : Unit → Option Bool := fun _ => some true
theorem groattop_live.run : call groattop_live.C Tryz.f8 groattop_live.code groattop_live.sg groattop_live.rs 0 () = some true := by
 have e : scat liveB (ByteArray.mk #[48]) = some liveE := by kernel_rfl
 rw [groattop_live.eq, live1, Option.bind_some, show wire_Encode.f ((1, 0, schema0), (ByteArray.mk #[48, 56, 48, 48], [(11, ByteArray.mk #[48, 48, 48, 48, 48, 49])])) = _ from live2, Option.bind_some]
 dsimp only
 rw [live3, Option.bind_some, show r24_Built.f () = some builtV from rfl, Option.bind_some, live10, Option.bind_some, Option.bind_some, e, Option.bind_some, live11, Option.bind_some]
 decide
noncomputable def groattop_live.c : Con := ⟨8, groattop_live.sg, groattop_live.rs, groattop_live.f⟩
theorem groattop_live.con : ConOk Tryz.prog groattop_live.c := walked (C := groattop_live.C) rfl (by kernel_rfl) (by kernel_rfl) (by kernel_rfl) rfl ⟨wire_Encode.con, strict_Decode.con, r14_Schema.con, route_Outcome.con, r24_Built.con, trivial⟩ fun x y h => ⟨0, groattop_live.run.trans h⟩
end Go.Proofs.YtkaihbkfobiejaaGreatDoor.Xe
