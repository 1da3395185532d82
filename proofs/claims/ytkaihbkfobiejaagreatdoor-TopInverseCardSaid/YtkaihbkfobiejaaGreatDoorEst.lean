/- What the program's strict.Decode answers. -/
import Derived.Test.YtkaihbkfobiejaaGreatDoorNgf
import Derived.Test.YtkaihbkfobiejaaGreatDoorEcg
import Derived.Test.YtkaihbkfobiejaaGreatDoorEbm
import Derived.Test.YtkaihbkfobiejaaGreatDoorEms
import Derived.Test.YtkaihbkfobiejaaGreatDoorEnx
namespace Go.Proofs.YtkaihbkfobiejaaGreatDoor.Xe
open Go Go.RowKit Go.Proofs.YtkaihbkfobiejaaGreatDoor.Sp
set_option linter.unusedVariables false
set_option linter.unusedSimpArgs false
set_option maxRecDepth 100000
/-! ### strict_typed -/
@[reducible] def strict_typed.sg : List Shp := [.a (.pair (.int .i64) (.pair (.int .i64) (.sl (.pair (.int .i64) (.pair (.int .i64) (.pair (.int .i64) (.pair (.int .i64) (.int .i64)))))))), .v (.str)]
@[reducible] def strict_typed.rs : Rs := .tup [.v (.str), .v (.int .i64), .v (.int .i64)]
@[reducible] noncomputable def strict_typed.code : Code := Tryz.f46.body.getD .skip
noncomputable def strict_typed.C : Ctx := ⟨tab, [bcd_Size.c, bcd_Get.c, mti_Version.c], [], ⟨[], []⟩⟩
theorem strict_typed.eq (n : Nat) (a0 : Int) (a1 : Int) (a2 : List ((Int × (Int × (Int × (Int × Int)))))) (a3 : ByteArray) : call strict_typed.C Tryz.f46 strict_typed.code strict_typed.sg strict_typed.rs n ((a0, (a1, a2)), a3) =
  (if a0 = 2 then ((bcd_Size.f 4).bind fun b0 =>
   (if (↑(ByteArray.size a3) : Int) < b0 then (some ((ByteArray.mk #[], 0, 2)))
   else ((ssub a3 0 b0).bind fun b1 =>
    (if a0 = 2 then ((bcd_Get.f (b1, 4)).bind fun b2 =>
     ((mti_Version.f (Prod.fst b2)).bind fun b3 =>
     (if ¬Prod.snd b3 = true then (some ((ByteArray.mk #[], 0, 7)))
     else (if ¬Prod.fst b3 = a1 then (some ((ByteArray.mk #[], 0, 7)))
      else (some ((Prod.fst b2, b0, 0)))))))
    else ((mti_Version.f b1).bind fun b4 =>
     (if ¬Prod.snd b4 = true then (some ((ByteArray.mk #[], 0, 7)))
     else (if ¬Prod.fst b4 = a1 then (some ((ByteArray.mk #[], 0, 7)))
      else (some ((b1, b0, 0))))))))))
  else (if (↑(ByteArray.size a3) : Int) < 4 then (some ((ByteArray.mk #[], 0, 2)))
   else ((ssub a3 0 4).bind fun b5 =>
    (if a0 = 2 then ((bcd_Get.f (b5, 4)).bind fun b6 =>
     ((mti_Version.f (Prod.fst b6)).bind fun b7 =>
     (if ¬Prod.snd b7 = true then (some ((ByteArray.mk #[], 0, 7)))
     else (if ¬Prod.fst b7 = a1 then (some ((ByteArray.mk #[], 0, 7)))
      else (some ((Prod.fst b6, 4, 0)))))))
    else ((mti_Version.f b5).bind fun b8 =>
     (if ¬Prod.snd b8 = true then (some ((ByteArray.mk #[], 0, 7)))
     else (if ¬Prod.fst b8 = a1 then (some ((ByteArray.mk #[], 0, 7)))
      else (some ((b5, 4, 0)))))))))) := by kernel_rfl
noncomputable def strict_typed.f : El (sgTy strict_typed.sg) → Option (El strict_typed.rs.ty) := fun x => match x with
  | ((a0, (a1, a2)), a3) =>
  (if a0 = 2 then ((bcd_Size.f 4).bind fun b0 =>
   (if (↑(ByteArray.size a3) : Int) < b0 then (some ((ByteArray.mk #[], 0, 2)))
   else ((ssub a3 0 b0).bind fun b1 =>
    (if a0 = 2 then ((bcd_Get.f (b1, 4)).bind fun b2 =>
     ((mti_Version.f (Prod.fst b2)).bind fun b3 =>
     (if ¬Prod.snd b3 = true then (some ((ByteArray.mk #[], 0, 7)))
     else (if ¬Prod.fst b3 = a1 then (some ((ByteArray.mk #[], 0, 7)))
      else (some ((Prod.fst b2, b0, 0)))))))
    else ((mti_Version.f b1).bind fun b4 =>
     (if ¬Prod.snd b4 = true then (some ((ByteArray.mk #[], 0, 7)))
     else (if ¬Prod.fst b4 = a1 then (some ((ByteArray.mk #[], 0, 7)))
      else (some ((b1, b0, 0))))))))))
  else (if (↑(ByteArray.size a3) : Int) < 4 then (some ((ByteArray.mk #[], 0, 2)))
   else ((ssub a3 0 4).bind fun b5 =>
    (if a0 = 2 then ((bcd_Get.f (b5, 4)).bind fun b6 =>
     ((mti_Version.f (Prod.fst b6)).bind fun b7 =>
     (if ¬Prod.snd b7 = true then (some ((ByteArray.mk #[], 0, 7)))
     else (if ¬Prod.fst b7 = a1 then (some ((ByteArray.mk #[], 0, 7)))
      else (some ((Prod.fst b6, 4, 0)))))))
    else ((mti_Version.f b5).bind fun b8 =>
     (if ¬Prod.snd b8 = true then (some ((ByteArray.mk #[], 0, 7)))
     else (if ¬Prod.fst b8 = a1 then (some ((ByteArray.mk #[], 0, 7)))
      else (some ((b5, 4, 0))))))))))
noncomputable def strict_typed.c : Con := ⟨46, strict_typed.sg, strict_typed.rs, strict_typed.f⟩
theorem strict_typed.con : ConOk Tryz.prog strict_typed.c := walked (C := strict_typed.C) rfl (by kernel_rfl) (by kernel_rfl) (by kernel_rfl) rfl ⟨bcd_Size.con, bcd_Get.con, mti_Version.con, trivial⟩ fun ⟨⟨a0, ⟨a1, a2⟩⟩, a3⟩ y h => ⟨0, (strict_typed.eq 0 a0 a1 a2 a3).trans h⟩
theorem take_sub (b : List UInt8) (n : Nat) (h : n ≤ b.length) (c : Int) (hc : c = (n : Int)) : ssub (sb b) 0 c = some (sb (b.take n)) := by
  subst hc
  exact ssub_sb b 0 n (Nat.zero_le _) h
theorem typed_tail (t : List UInt8) (ver c : Int) : ((mti_Version.f (sb t)).bind fun b3 => if ¬Prod.snd b3 = true then some (ByteArray.mk #[], 0, 7) else if ¬Prod.fst b3 = ver then some (ByteArray.mk #[], 0, 7) else some (sb t, c, 0)) = some (if right t = true ∧ ((t.getD 0 0).toNat : Int) - 48 = ver then (sb t, c, 0) else (sb [], (0 : Int), (7 : Int))) := by
  rw [mti_Version, Option.bind_some]
  by_cases c1 : right t = true
  · rw [if_pos c1, if_neg (not_not_intro rfl)]
    dsimp only
    by_cases c2 : ((t.getD 0 0).toNat : Int) - 48 = ver
    · rw [if_neg (not_not_intro c2), if_pos ⟨c1, c2⟩]
    · rw [if_pos c2, if_neg (fun q => c2 q.2)]; rfl
  · rw [if_neg c1, if_pos (fun q => by cases q), if_neg (fun q => c1 q.1)]; rfl
theorem strict_typed (a ver : Int) (s : List S5) (b : List UInt8) : strict_typed.f ((a, ver, s), sb b) = some (sb (typeG a ver b).1, (typeG a ver b).2.1, (typeG a ver b).2.2) := by
  have hs : bcd_Size.f 4 = some 2 := bcd_Size 4 (by decide)
  simp only [strict_typed.f]
  rw [size_sb]
  unfold typeG typeN typeT
  by_cases c : a = 2
  · rw [if_pos c, if_pos c, if_pos c, hs, Option.bind_some]
    by_cases c2 : b.length < 2
    · rw [if_pos (by omega), if_pos c2]; rfl
    · rw [if_neg (by omega), if_neg c2, take_sub b 2 (by omega) 2 rfl, Option.bind_some, if_pos c, bcd_Get, Option.bind_some]
      refine (typed_tail _ ver 2).trans ?_
      split <;> rfl
  · rw [if_neg c, if_neg c, if_neg c]
    by_cases c2 : b.length < 4
    · rw [if_pos (by omega), if_pos c2]; rfl
    · rw [if_neg (by omega), if_neg c2, take_sub b 4 (by omega) 4 rfl, Option.bind_some, if_neg c]
      refine (typed_tail _ ver 4).trans ?_
      split <;> rfl
/-! ### strict_Decode -/
@[reducible] def strict_Decode.sg : List Shp := [.a (.pair (.int .i64) (.pair (.int .i64) (.sl (.pair (.int .i64) (.pair (.int .i64) (.pair (.int .i64) (.pair (.int .i64) (.int .i64)))))))), .v (.str)]
@[reducible] def strict_Decode.rs : Rs := .tup [.a (.pair (.str) (.sl (.pair (.int .i64) (.str)))), .a (.pair (.int .i64) (.int .i64))]
@[reducible] noncomputable def strict_Decode.code : Code := Tryz.f13.body.getD .skip
noncomputable def strict_Decode.C : Ctx := ⟨tab, [schema_Find.c, fields_Set_Next.c, bitmap_Get.c, cell_Get.c, schema_Check.c, strict_typed.c], [], ⟨[(13, [1, 2, 4, 5, 6, 10, 12, 13], 5)], []⟩⟩
noncomputable def strict_Decode.l0 (n : Nat) (v0 : ByteArray) (v1 : Int) (v2 : Int) (v3 : Int) (v4 : Int) (v5 : List ((Int × (Int × (Int × (Int × Int)))))) (v6 : ByteArray) (v7 : Int) (v8 : Int) (v9 : ByteArray) (v10 : Int) (v11 : Int) : Option (((ByteArray × List ((Int × ByteArray))) × (Int × Int))) := run strict_Decode.C (finOf strict_Decode.C Tryz.f13 strict_Decode.rs) n (todoAt 13 strict_Decode.code) ⟨[.junk, .str v0, .ptr 0 0, .junk, .ptr 1 0, .ptr 2 0, .ptr 3 0, .junk, .junk, .junk, .int .i64 v1, .junk, .ptr 4 0, .int .i64 v2, .junk, .junk, .junk, .junk, .junk, .junk, .junk, .junk, .junk, .junk, .junk, .junk, .junk, .junk, .junk, .junk, .junk, .junk, .junk, .junk, .junk, .junk, .junk, .junk, .junk, .junk, .junk, .junk, .junk, .junk, .junk, .junk, .junk, .junk, .junk, .junk, .junk, .junk, .junk, .junk, .junk, .junk, .junk, .junk, .junk, .junk, .junk, .junk, .junk, .junk, .junk, .junk, .junk, .junk, .junk, .junk, .junk, .junk, .junk, .junk, .junk, .junk, .junk, .junk, .junk, .junk, .junk, .junk, .junk, .junk, .junk, .junk, .junk, .junk, .junk, .junk, .junk, .junk, .junk, .junk, .junk, .junk, .junk, .junk, .junk, .junk, .junk, .junk, .junk, .junk, .junk, .junk, .junk], [[.int .i64 v3, .int .i64 v4, .sl none (.pair (.int .i64) (.pair (.int .i64) (.pair (.int .i64) (.pair (.int .i64) (.int .i64))))) v5], [.str v6, .nilsl], [.int .i64 v7, .int .i64 v8], [.str v9, .nilsl], [.int .u64 v10, .int .u64 v11]], []⟩
noncomputable def strict_Decode.l1 (n : Nat) (v0 : ByteArray) (v1 : Int) (v2 : Int) (v3 : Int) (v4 : Int) (v5 : List ((Int × (Int × (Int × (Int × Int)))))) (v6 : ByteArray) (v7 : Int) (v8 : Int) (v9 : ByteArray) (v10 : List ((Int × ByteArray))) (v11 : Int) (v12 : Int) : Option (((ByteArray × List ((Int × ByteArray))) × (Int × Int))) := run strict_Decode.C (finOf strict_Decode.C Tryz.f13 strict_Decode.rs) n (todoAt 13 strict_Decode.code) ⟨[.junk, .str v0, .ptr 0 0, .junk, .ptr 1 0, .ptr 2 0, .ptr 3 0, .junk, .junk, .junk, .int .i64 v1, .junk, .ptr 4 0, .int .i64 v2, .junk, .junk, .junk, .junk, .junk, .junk, .junk, .junk, .junk, .junk, .junk, .junk, .junk, .junk, .junk, .junk, .junk, .junk, .junk, .junk, .junk, .junk, .junk, .junk, .junk, .junk, .junk, .junk, .junk, .junk, .junk, .junk, .junk, .junk, .junk, .junk, .junk, .junk, .junk, .junk, .junk, .junk, .junk, .junk, .junk, .junk, .junk, .junk, .junk, .junk, .junk, .junk, .junk, .junk, .junk, .junk, .junk, .junk, .junk, .junk, .junk, .junk, .junk, .junk, .junk, .junk, .junk, .junk, .junk, .junk, .junk, .junk, .junk, .junk, .junk, .junk, .junk, .junk, .junk, .junk, .junk, .junk, .junk, .junk, .junk, .junk, .junk, .junk, .junk, .junk, .junk, .junk, .junk], [[.int .i64 v3, .int .i64 v4, .sl none (.pair (.int .i64) (.pair (.int .i64) (.pair (.int .i64) (.pair (.int .i64) (.int .i64))))) v5], [.str v6, .nilsl], [.int .i64 v7, .int .i64 v8], [.str v9, .sl (some 0) (.pair (.int .i64) (.str)) v10], [.int .u64 v11, .int .u64 v12]], [true]⟩
-- the loop at region 13
theorem strict_Decode.l0_eq (n : Nat) (v0 : ByteArray) (v1 : Int) (v2 : Int) (v3 : Int) (v4 : Int) (v5 : List ((Int × (Int × (Int × (Int × Int)))))) (v6 : ByteArray) (v7 : Int) (v8 : Int) (v9 : ByteArray) (v10 : Int) (v11 : Int) : strict_Decode.l0 (n + 1) v0 v1 v2 v3 v4 v5 v6 v7 v8 v9 v10 v11 =
  (if ¬v2 = 0 then ((schema_Find.f ((v3, v4, v5), v2)).bind fun b4 =>
   (if ¬Prod.snd b4 = true then (some (((v9, []), 9, v2)))
   else ((cell_Get.f (v3, Prod.fst b4, v0, v1)).bind fun b5 =>
    (if ¬Prod.snd (Prod.snd b5) = 0 then (some (((v9, []), Prod.snd (Prod.snd b5), v2)))
    else ((lcat 24 [] [(v2, Prod.fst b5)]).bind fun b6 =>
     ((fields_Set_Next.f ((v10, v11), v2)).bind fun b7 =>
     (strict_Decode.l1 n v0 (Prod.fst (Prod.snd b5)) b7 v3 v4 v5 v6 v7 v8 v9 b6 v10 v11)))))))
  else (if v1 < (↑(ByteArray.size v0) : Int) then (some (((v9, []), 12, 129)))
   else (some (((v9, []), 0, 0))))) := by kernel_rfl
-- the loop at region 13
theorem strict_Decode.l1_eq (n : Nat) (v0 : ByteArray) (v1 : Int) (v2 : Int) (v3 : Int) (v4 : Int) (v5 : List ((Int × (Int × (Int × (Int × Int)))))) (v6 : ByteArray) (v7 : Int) (v8 : Int) (v9 : ByteArray) (v10 : List ((Int × ByteArray))) (v11 : Int) (v12 : Int) : strict_Decode.l1 (n + 1) v0 v1 v2 v3 v4 v5 v6 v7 v8 v9 v10 v11 v12 =
  (if ¬v2 = 0 then ((schema_Find.f ((v3, v4, v5), v2)).bind fun b8 =>
   (if ¬Prod.snd b8 = true then (some (((v9, v10), 9, v2)))
   else ((cell_Get.f (v3, Prod.fst b8, v0, v1)).bind fun b9 =>
    (if ¬Prod.snd (Prod.snd b9) = 0 then (some (((v9, v10), Prod.snd (Prod.snd b9), v2)))
    else ((lcat 24 v10 [(v2, Prod.fst b9)]).bind fun b10 =>
     ((fields_Set_Next.f ((v11, v12), v2)).bind fun b11 =>
     (strict_Decode.l1 n v0 (Prod.fst (Prod.snd b9)) b11 v3 v4 v5 v6 v7 v8 v9 b10 v11 v12)))))))
  else (if v1 < (↑(ByteArray.size v0) : Int) then (some (((v9, v10), 12, 129)))
   else (some (((v9, v10), 0, 0))))) := by kernel_rfl
theorem strict_Decode.eq (n : Nat) (a0 : Int) (a1 : Int) (a2 : List ((Int × (Int × (Int × (Int × Int)))))) (a3 : ByteArray) : call strict_Decode.C Tryz.f13 strict_Decode.code strict_Decode.sg strict_Decode.rs n ((a0, (a1, a2)), a3) =
  ((schema_Check.f (a0, a1, a2)).bind fun b0 =>
  (if ¬Prod.fst b0 = 0 then (some (((ByteArray.mk #[], []), 1, -1)))
  else ((strict_typed.f ((a0, a1, a2), a3)).bind fun b1 =>
   (if ¬Prod.snd (Prod.snd b1) = 0 then (some (((ByteArray.mk #[], []), Prod.snd (Prod.snd b1), 0)))
   else ((bitmap_Get.f (a0, a3, Prod.fst (Prod.snd b1))).bind fun b2 =>
    (if ¬Prod.snd (Prod.snd b2) = 0 then (some (((Prod.fst b1, []), Prod.snd (Prod.snd b2), 1)))
    else ((fields_Set_Next.f (Prod.fst b2, 0)).bind fun b3 =>
     (strict_Decode.l0 n a3 (Prod.fst (Prod.snd b2)) b3 a0 a1 a2 (ByteArray.mk #[]) 0 0 (Prod.fst b1) (Prod.fst (Prod.fst b2)) (Prod.snd (Prod.fst b2)))))))))) := by kernel_rfl
noncomputable def strict_Decode.f (x : (Int × Int × List S5) × ByteArray) : Option ((ByteArray × List V) × Int × Int) := if x.1.2.2.length ≤ 1000000 ∧ x.2.size ≤ 70368744177664 ∧ x.2.size ≤ 1000000000000 then some ((sb (decM x.1 (bl x.2)).1.1, (decM x.1 (bl x.2)).1.2), (decM x.1 (bl x.2)).2) else none
theorem strict_Decode (a ver : Int) (s : List S5) (hs : s.length ≤ 1000000) (b : List UInt8) (hb : b.length ≤ 1000000000000) : strict_Decode.f ((a, ver, s), sb b) = some ((sb (decM (a, ver, s) b).1.1, (decM (a, ver, s) b).1.2), (decM (a, ver, s) b).2) := if_pos ⟨hs, by rw [size_sb]; omega, by rw [size_sb]; exact hb⟩
theorem decL_find (a ver : Int) (s : List S5) (hs : s.length ≤ 1000000) (b : List UInt8) (hb : b.length ≤ 1000000000000) (n at_ : Int) (K : List UInt8 → Int → Option ((ByteArray × List V) × Int × Int)) (t : ByteArray) (acc : List V) :
    ((schema_Find.f ((a, ver, s), n)).bind fun b8 => if ¬Prod.snd b8 = true then some ((t, acc), 9, n) else (cell_Get.f (a, Prod.fst b8, sb b, at_)).bind fun b9 => if ¬Prod.snd (Prod.snd b9) = 0 then some ((t, acc), Prod.snd (Prod.snd b9), n) else K (bl (Prod.fst b9)) (Prod.fst (Prod.snd b9))) =
    if (findS n s).2 = false then some ((t, acc), 9, n) else if (cellGet' a (findS n s).1 b at_).2.2 ≠ 0 then some ((t, acc), (cellGet' a (findS n s).1 b at_).2.2, n) else K (cellGet' a (findS n s).1 b at_).1 (cellGet' a (findS n s).1 b at_).2.1 := by
  rw [schema_Find a ver s hs, Option.bind_some]
  by_cases c : (findS n s).2 = true
  · rw [if_neg (not_not_intro c), if_neg (show ¬ (findS n s).2 = false by rw [c]; simp)]
    have := cell_Get a (findS n s).1.1 (findS n s).1.2.1 (findS n s).1.2.2.1 (findS n s).1.2.2.2.1 (findS n s).1.2.2.2.2 b hb at_
    have this : cell_Get.f (a, Prod.fst (findS n s), sb b, at_) = some (str3 (cellGet' a (findS n s).1 b at_)) := this
    rw [this, Option.bind_some]
    by_cases c2 : (cellGet' a (findS n s).1 b at_).2.2 = 0
    · rw [if_neg (not_not_intro c2)]
      show (if ¬ (cellGet' a (findS n s).1 b at_).2.2 = 0 then _ else _) = _
      rw [if_neg (not_not_intro c2)]; rfl
    · rw [if_pos c2]
      show (if ¬ (cellGet' a (findS n s).1 b at_).2.2 = 0 then _ else _) = _
      rw [if_pos c2]; rfl
  · rw [if_pos c, if_pos (by simpa using c)]
theorem strict_Decode_l1 (a ver : Int) (s : List S5) (hs : s.length ≤ 1000000) (b : List UInt8) (hb : b.length ≤ 1000000000000) (h l : Nat) (t y : ByteArray) (z1 z2 : Int) : ∀ (m : List Int) (n k : Nat) (at_ : Int) (acc : List V), n ≤ 128 → fromS h l n = m → m.length < k → acc.length + m.length ≤ 128 →
    strict_Decode.l1 k (sb b) at_ (m.headD 0) a ver s y z1 z2 t acc (h : Int) (l : Int) = some ((t, acc ++ (decL a s b m at_).1), (decL a s b m at_).2)
  | [], n, k, at_, acc, hn, hd, hk, ha => by
    obtain ⟨k, rfl⟩ : ∃ m, k = m + 1 := ⟨k - 1, by omega⟩
    rw [strict_Decode.l1_eq, if_neg (show ¬ ¬ ([] : List Int).headD 0 = 0 from not_not_intro rfl), decL, List.append_nil, size_sb]
    split <;> rfl
  | x :: m, n, k, at_, acc, hn, hd, hk, ha => by
    obtain ⟨k, rfl⟩ : ∃ m, k = m + 1 := ⟨k - 1, by omega⟩
    obtain ⟨j, rfl, h1, h2, h3⟩ := fromS_cons hn hd
    have hk' : m.length < k := by simp at hk; omega
    rw [List.length_cons] at ha
    have e0 : ((j : Int) :: m).headD 0 = (j : Int) := rfl
    rw [strict_Decode.l1_eq, e0, if_pos (by omega)]
    refine (decL_find a ver s hs b hb (j : Int) at_ (fun u v => (lcat 24 acc [((j : Int), sb u)]).bind fun b10 => (fields_Set_Next.f (((h : Int), (l : Int)), (j : Int))).bind fun b11 => strict_Decode.l1 k (sb b) v b11 a ver s y z1 z2 t b10 (h : Int) (l : Int)) t acc).trans ?_
    rw [decL]
    by_cases c : (findS (j : Int) s).2 = false
    · rw [if_pos c, if_pos c, List.append_nil]
    rw [if_neg c, if_neg c]
    by_cases c2 : (cellGet' a (findS (j : Int) s).1 b at_).2.2 = 0
    · rw [if_neg (not_not_intro c2), if_neg (not_not_intro c2)]
      dsimp only
      rw [lcat_ok _ _ _ (by simp only [List.length_cons, List.length_nil]; omega), Option.bind_some, fields_Set_Next h l j h2, Option.bind_some]
      unfold nextS
      rw [← h3, strict_Decode_l1 a ver s hs b hb h l t y z1 z2 m j k _ (acc ++ [((j : Int), sb (cellGet' a (findS (j : Int) s).1 b at_).1)]) h2 h3.symm hk' (by rw [List.length_append]; simp only [List.length_cons, List.length_nil]; omega)]
      simp
    · rw [if_pos c2, if_pos c2, List.append_nil]
theorem strict_Decode_l0 (a ver : Int) (s : List S5) (hs : s.length ≤ 1000000) (b : List UInt8) (hb : b.length ≤ 1000000000000) (h l : Nat) (t y : ByteArray) (z1 z2 : Int) (k : Nat) (at_ : Int) (hk : 130 ≤ k) :
    strict_Decode.l0 k (sb b) at_ ((fromS h l 0).headD 0) a ver s y z1 z2 t (h : Int) (l : Int) = some ((t, (decL a s b (fromS h l 0) at_).1), (decL a s b (fromS h l 0) at_).2) := by
  obtain ⟨k, rfl⟩ : ∃ m, k = m + 1 := ⟨k - 1, by omega⟩
  have hlen := fromS_length h l 0
  cases hd : fromS h l 0 with
  | nil =>
    rw [strict_Decode.l0_eq, if_neg (show ¬ ¬ ([] : List Int).headD 0 = 0 from not_not_intro rfl), decL, size_sb]
    split <;> rfl
  | cons x m =>
    rw [hd, List.length_cons] at hlen
    obtain ⟨j, rfl, h1, h2, h3⟩ := fromS_cons (by omega) hd
    have e0 : ((j : Int) :: m).headD 0 = (j : Int) := rfl
    rw [strict_Decode.l0_eq, e0, if_pos (by omega)]
    refine (decL_find a ver s hs b hb (j : Int) at_ (fun u v => (lcat 24 [] [((j : Int), sb u)]).bind fun b10 => (fields_Set_Next.f (((h : Int), (l : Int)), (j : Int))).bind fun b11 => strict_Decode.l1 k (sb b) v b11 a ver s y z1 z2 t b10 (h : Int) (l : Int)) t []).trans ?_
    rw [decL]
    by_cases c : (findS (j : Int) s).2 = false
    · rw [if_pos c, if_pos c]
    rw [if_neg c, if_neg c]
    by_cases c2 : (cellGet' a (findS (j : Int) s).1 b at_).2.2 = 0
    · rw [if_neg (not_not_intro c2), if_neg (not_not_intro c2)]
      dsimp only
      rw [lcat_ok _ _ _ (by simp), Option.bind_some, fields_Set_Next h l j h2, Option.bind_some]
      unfold nextS
      rw [← h3, List.nil_append, strict_Decode_l1 a ver s hs b hb h l t y z1 z2 m j k _ [((j : Int), sb (cellGet' a (findS (j : Int) s).1 b at_).1)] h2 h3.symm (by omega) (by simp only [List.length_cons, List.length_nil]; omega)]
      rfl
    · rw [if_pos c2, if_pos c2]
theorem strict_Decode.run (a ver : Int) (s : List S5) (hs : s.length ≤ 1000000) (b : List UInt8) (hb : b.length ≤ 1000000000000) : call strict_Decode.C Tryz.f13 strict_Decode.code strict_Decode.sg strict_Decode.rs 140 ((a, ver, s), sb b) = some ((sb (decM (a, ver, s) b).1.1, (decM (a, ver, s) b).1.2), (decM (a, ver, s) b).2) := by
  rw [strict_Decode.eq, schema_Check a ver s hs, Option.bind_some]
  unfold decM
  by_cases c1 : (schemaE (a, ver, s)).1 = 0
  · rw [if_neg (not_not_intro c1), if_neg (not_not_intro c1), strict_typed, Option.bind_some]
    dsimp only
    by_cases c2 : (typeG a ver b).2.2 = 0
    · rw [if_neg (not_not_intro c2), if_neg (not_not_intro c2), bitmap_Get a b (by omega), Option.bind_some]
      dsimp only
      by_cases c3 : (bitGet a b (typeG a ver b).2.1).2.2 = 0
      · rw [if_neg (not_not_intro c3), if_neg (not_not_intro c3), show (0 : Int) = ((0 : Nat) : Int) from rfl, fields_Set_Next _ _ 0 (by omega), Option.bind_some]
        exact strict_Decode_l0 a ver s hs b hb _ _ _ _ _ _ 140 _ (by omega)
      · rw [if_pos c3, if_pos c3]
    · rw [if_pos c2, if_pos c2]; rfl
  · rw [if_pos c1, if_pos c1]; rfl
noncomputable def strict_Decode.c : Con := ⟨13, strict_Decode.sg, strict_Decode.rs, strict_Decode.f⟩
theorem strict_Decode.con : ConOk Tryz.prog strict_Decode.c := walked (C := strict_Decode.C) rfl (by kernel_rfl) (by kernel_rfl) (by kernel_rfl) rfl ⟨schema_Find.con, fields_Set_Next.con, bitmap_Get.con, cell_Get.con, schema_Check.con, strict_typed.con, trivial⟩ fun ⟨⟨a, ver, s⟩, b⟩ y h => by
  obtain ⟨b, rfl⟩ := ex_sb b
  have h : strict_Decode.f ((a, ver, s), sb b) = some y := h
  unfold strict_Decode.f at h
  split at h
  · rename_i hc
    obtain ⟨h1, h2, h3⟩ := hc
    have h3 : (sb b).size ≤ 1000000000000 := h3
    rw [size_sb] at h3
    exact ⟨140, (strict_Decode.run a ver s h1 b h3).trans h⟩
  · cases h
end Go.Proofs.YtkaihbkfobiejaaGreatDoor.Xe
