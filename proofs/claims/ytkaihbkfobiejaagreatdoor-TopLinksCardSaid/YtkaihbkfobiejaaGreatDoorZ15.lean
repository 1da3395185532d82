import Derived.Test.YtkaihbkfobiejaaGreatDoorZ13
import Derived.Test.YtkaihbkfobiejaaGreatDoorZ14
import Derived.Test.YtkaihbkfobiejaaGreatDoorZ8
import Derived.Test.YtkaihbkfobiejaaGreatDoorZ11
import Derived.Test.YtkaihbkfobiejaaGreatDoorZ12
import Derived.Test.YtkaihbkfobiejaaGreatDoorZ7
import Derived.Test.YtkaihbkfobiejaaGreatDoorZ6
namespace Go.Proofs.YtkaihbkfobiejaaGreatDoor.Xe
open Go Go.RowKit Go.Proofs.YtkaihbkfobiejaaGreatDoor.Sp
set_option linter.unusedVariables false
set_option linter.unusedSimpArgs false
set_option maxRecDepth 100000
@[reducible] def strings_trimLeftByte.sg : List Shp := [.v (.str), .v (.int .u8)]
@[reducible] def strings_trimLeftByte.rs : Rs := .one (.v (.str))
@[reducible] noncomputable def strings_trimLeftByte.code : Code := Tryz.f158.body.getD .skip
noncomputable def strings_trimLeftByte.C : Ctx := ⟨tab, [], [], ⟨[(1, [0, 1], 0)], []⟩⟩
noncomputable def strings_trimLeftByte.l0 (n : Nat) (v0 : ByteArray) (v1 : Int) : Option ByteArray := run strings_trimLeftByte.C (finOf strings_trimLeftByte.C Tryz.f158 strings_trimLeftByte.rs) n (todoAt 1 strings_trimLeftByte.code) ⟨.str v0 :: .int .u8 v1 :: zJ :: zJ :: zJ :: zJ :: zJ :: zJ :: zJ :: zK [], [], []⟩
theorem strings_trimLeftByte.l0_eq n v0 v1 : strings_trimLeftByte.l0 (n + 1) v0 v1 =
 (if (v0.size : Int) > 0 then ((bget v0 0).bind fun b0 =>
 (if (↑(UInt8.toNat b0) : Int) = v1 then ((ssub v0 1 (v0.size : Int)).bind fun b1 =>
 (strings_trimLeftByte.l0 n b1 v1))
 else (some v0)))
 else (some v0)) := by kernel_rfl
theorem strings_trimLeftByte.eq (n : Nat) (a0 : ByteArray) (a1 : Int) : call strings_trimLeftByte.C Tryz.f158 strings_trimLeftByte.code strings_trimLeftByte.sg strings_trimLeftByte.rs n (a0, a1) =
 (strings_trimLeftByte.l0 n a0 a1) := by kernel_rfl
noncomputable def strings_trimLeftByte.f (x : ByteArray × Int) : Option ByteArray := if x.2 = 48 ∧ x.1.size ≤ 1000000 then some (sb ((bl x.1).dropWhile (· == 48))) else none
theorem strings_trimLeftByte_l : ∀ (l : List UInt8) (k : Nat), l.length ≤ 1000000 → l.length < k → strings_trimLeftByte.l0 k (sb l) 48 = some (sb (l.dropWhile (· == 48)))
 | [], k, hl, hk => by
  obtain ⟨k, rfl⟩ : ∃ m, k = m + 1 := ⟨k - 1, by omega⟩
  rw [strings_trimLeftByte.l0_eq, if_neg (by rw [size_sb]; simp)]; rfl
 | x :: l, k, hl, hk => by
  obtain ⟨k, rfl⟩ : ∃ m, k = m + 1 := ⟨k - 1, by omega⟩
  have hk' : l.length < k := by simp at hk; omega
  have g := bget_sb (x :: l) 0 (by simp)
  have s1 := ssub_sb (x :: l) 1 (x :: l).length (by simp) (Nat.le_refl _)
  rw [List.take_of_length_le (Nat.le_refl _)] at s1
  rw [strings_trimLeftByte.l0_eq, size_sb, if_pos (by simp only [List.length_cons]; omega), show bget (sb (x :: l)) 0 = some x from g, Option.bind_some, List.dropWhile_cons]
  by_cases c : x = 48
  ·subst c
   rw [if_pos (show (((48 : UInt8).toNat : Nat) : Int) = 48 from rfl), if_pos (show ((48 : UInt8) == 48) = true from rfl), show ssub (sb (48 :: l)) 1 (((48 :: l).length : Nat) : Int) = some (sb l) from s1, Option.bind_some]
   exact strings_trimLeftByte_l l k (by simp at hl; omega) hk'
  ·rw [if_neg (fun e => c (by apply UInt8.toNat_inj.1; simpa using (Int.ofNat_inj.1 e))), if_neg (by simpa using c)]
noncomputable def strings_trimLeftByte.c : Con := ⟨158, strings_trimLeftByte.sg, strings_trimLeftByte.rs, strings_trimLeftByte.f⟩
theorem strings_trimLeftByte.con : ConOk Tryz.prog strings_trimLeftByte.c := walked (C := strings_trimLeftByte.C) rfl (by kernel_rfl) (by kernel_rfl) (by kernel_rfl) rfl trivial fun ⟨s, c⟩ y h => by
 have h : strings_trimLeftByte.f (s, c) = some y := h
 obtain ⟨l, rfl⟩ := ex_sb s
 unfold strings_trimLeftByte.f at h
 split at h
 ·rename_i hc
  obtain ⟨rfl, hl⟩ := hc
  dsimp only at hl h
  rw [size_sb] at hl
  rw [bl_sb] at h
  exact ⟨l.length + 1, by rw [strings_trimLeftByte.eq, ← h]; exact strings_trimLeftByte_l l _ hl (by omega)⟩
 ·cases h
@[reducible] def strings_trimRightByte.sg : List Shp := [.v (.str), .v (.int .u8)]
@[reducible] def strings_trimRightByte.rs : Rs := .one (.v (.str))
@[reducible] noncomputable def strings_trimRightByte.code : Code := Tryz.f159.body.getD .skip
noncomputable def strings_trimRightByte.C : Ctx := ⟨tab, [], [], ⟨[(1, [0, 1], 0)], []⟩⟩
noncomputable def strings_trimRightByte.l0 (n : Nat) (v0 : ByteArray) (v1 : Int) : Option ByteArray := run strings_trimRightByte.C (finOf strings_trimRightByte.C Tryz.f159 strings_trimRightByte.rs) n (todoAt 1 strings_trimRightByte.code) ⟨.str v0 :: .int .u8 v1 :: zJ :: zJ :: zJ :: zJ :: zJ :: zK (zK []), [], []⟩
theorem strings_trimRightByte.l0_eq n v0 v1 : strings_trimRightByte.l0 (n + 1) v0 v1 =
 (if (v0.size : Int) > 0 then ((bget v0 (IntKind.wrap .i64 ((v0.size : Int) - 1))).bind fun b0 =>
 (if (↑(UInt8.toNat b0) : Int) = v1 then ((ssub v0 0 (IntKind.wrap .i64 ((v0.size : Int) - 1))).bind fun b1 =>
 (strings_trimRightByte.l0 n b1 v1))
 else (some v0)))
 else (some v0)) := by kernel_rfl
theorem strings_trimRightByte.eq (n : Nat) (a0 : ByteArray) (a1 : Int) : call strings_trimRightByte.C Tryz.f159 strings_trimRightByte.code strings_trimRightByte.sg strings_trimRightByte.rs n (a0, a1) =
 (strings_trimRightByte.l0 n a0 a1) := by kernel_rfl
noncomputable def strings_trimRightByte.f (x : ByteArray × Int) : Option ByteArray := if x.2 = 48 ∧ x.1.size ≤ 1000000 then some (sb (stripR (bl x.1))) else none
theorem strings_trimRightByte_l : ∀ (n : Nat) (l : List UInt8) (k : Nat), l.length = n → l.length ≤ 1000000 → l.length < k → strings_trimRightByte.l0 k (sb l) 48 = some (sb (stripR l))
 | 0, l, k, hn, hl, hk => by
  obtain ⟨k, rfl⟩ : ∃ m, k = m + 1 := ⟨k - 1, by omega⟩
  obtain rfl := List.eq_nil_of_length_eq_zero hn
  rw [strings_trimRightByte.l0_eq, if_neg (by rw [size_sb]; simp)]; rfl
 | n + 1, l, k, hn, hl, hk => by
  obtain ⟨k, rfl⟩ : ∃ m, k = m + 1 := ⟨k - 1, by omega⟩
  have hne : l ≠ [] := fun e => by rw [e] at hn; cases hn
  obtain ⟨m, x, rfl⟩ : ∃ m x, l = m ++ [x] := ⟨l.dropLast, l.getLast hne, (List.dropLast_concat_getLast hne).symm⟩
  have hm : m.length = n := by rw [List.length_append, List.length_singleton] at hn; omega
  have hlen : (m ++ [x]).length = m.length + 1 := by rw [List.length_append, List.length_singleton]
  have w1 : IntKind.wrap .i64 (((m ++ [x]).length : Int) - 1) = ((m.length : Nat) : Int) := by rw [hlen, wrap_id (by omega) (by omega)]; omega
  have g := bget_sb (m ++ [x]) m.length (by omega)
  have hx : (m ++ [x])[m.length]'(by omega) = x := by simp
  rw [hx] at g
  have s1 := ssub_sb (m ++ [x]) 0 m.length (by omega) (by omega)
  rw [List.drop_zero, List.take_left' rfl] at s1
  rw [strings_trimRightByte.l0_eq, size_sb, if_pos (by omega), w1, g, Option.bind_some, stripR_concat]
  by_cases c : x = 48
  ·subst c
   rw [if_pos (show (((48 : UInt8).toNat : Nat) : Int) = 48 from rfl), if_pos rfl, show ssub (sb (m ++ [48])) 0 ((m.length : Nat) : Int) = some (sb m) from s1, Option.bind_some]
   exact strings_trimRightByte_l n m k hm (by omega) (by omega)
  ·rw [if_neg (fun e => c (by apply UInt8.toNat_inj.1; simpa using (Int.ofNat_inj.1 e))), if_neg c]
noncomputable def strings_trimRightByte.c : Con := ⟨159, strings_trimRightByte.sg, strings_trimRightByte.rs, strings_trimRightByte.f⟩
theorem strings_trimRightByte.con : ConOk Tryz.prog strings_trimRightByte.c := walked (C := strings_trimRightByte.C) rfl (by kernel_rfl) (by kernel_rfl) (by kernel_rfl) rfl trivial fun ⟨s, c⟩ y h => by
 have h : strings_trimRightByte.f (s, c) = some y := h
 obtain ⟨l, rfl⟩ := ex_sb s
 unfold strings_trimRightByte.f at h
 split at h
 ·rename_i hc
  obtain ⟨rfl, hl⟩ := hc
  dsimp only at hl h
  rw [size_sb] at hl
  rw [bl_sb] at h
  exact ⟨l.length + 1, by rw [strings_trimRightByte.eq, ← h]; exact strings_trimRightByte_l l.length l _ rfl hl (by omega)⟩
 ·cases h
@[reducible] def strings_makeASCIISet.sg : List Shp := [.v (.str)]
@[reducible] def strings_makeASCIISet.rs : Rs := .tup [.v (.unit), .v (.bool)]
def strings_makeASCIISet.f : El (sgTy strings_makeASCIISet.sg) → Option (El strings_makeASCIISet.rs.ty) := fun _ => none
noncomputable def strings_makeASCIISet.c : Con := ⟨160, strings_makeASCIISet.sg, strings_makeASCIISet.rs, strings_makeASCIISet.f⟩
theorem strings_makeASCIISet.con : ConOk Tryz.prog strings_makeASCIISet.c := ⟨⟨_, Tryz.func160, by kernel_rfl, by kernel_rfl⟩, fun x y h => by cases h⟩
@[reducible] def strings_trimLeftASCII.sg : List Shp := [.v (.str), .v (.unit)]
@[reducible] def strings_trimLeftASCII.rs : Rs := .one (.v (.str))
def strings_trimLeftASCII.f : El (sgTy strings_trimLeftASCII.sg) → Option (El strings_trimLeftASCII.rs.ty) := fun _ => none
noncomputable def strings_trimLeftASCII.c : Con := ⟨161, strings_trimLeftASCII.sg, strings_trimLeftASCII.rs, strings_trimLeftASCII.f⟩
theorem strings_trimLeftASCII.con : ConOk Tryz.prog strings_trimLeftASCII.c := ⟨⟨_, Tryz.func161, by kernel_rfl, by kernel_rfl⟩, fun x y h => by cases h⟩
@[reducible] def strings_trimRightASCII.sg : List Shp := [.v (.str), .v (.unit)]
@[reducible] def strings_trimRightASCII.rs : Rs := .one (.v (.str))
def strings_trimRightASCII.f : El (sgTy strings_trimRightASCII.sg) → Option (El strings_trimRightASCII.rs.ty) := fun _ => none
noncomputable def strings_trimRightASCII.c : Con := ⟨162, strings_trimRightASCII.sg, strings_trimRightASCII.rs, strings_trimRightASCII.f⟩
theorem strings_trimRightASCII.con : ConOk Tryz.prog strings_trimRightASCII.c := ⟨⟨_, Tryz.func162, by kernel_rfl, by kernel_rfl⟩, fun x y h => by cases h⟩
@[reducible] def strings_trimLeftUnicode.sg : List Shp := [.v (.str), .v (.str)]
@[reducible] def strings_trimLeftUnicode.rs : Rs := .one (.v (.str))
def strings_trimLeftUnicode.f : El (sgTy strings_trimLeftUnicode.sg) → Option (El strings_trimLeftUnicode.rs.ty) := fun _ => none
noncomputable def strings_trimLeftUnicode.c : Con := ⟨163, strings_trimLeftUnicode.sg, strings_trimLeftUnicode.rs, strings_trimLeftUnicode.f⟩
theorem strings_trimLeftUnicode.con : ConOk Tryz.prog strings_trimLeftUnicode.c := ⟨⟨_, Tryz.func163, by kernel_rfl, by kernel_rfl⟩, fun x y h => by cases h⟩
@[reducible] def strings_trimRightUnicode.sg : List Shp := [.v (.str), .v (.str)]
@[reducible] def strings_trimRightUnicode.rs : Rs := .one (.v (.str))
def strings_trimRightUnicode.f : El (sgTy strings_trimRightUnicode.sg) → Option (El strings_trimRightUnicode.rs.ty) := fun _ => none
noncomputable def strings_trimRightUnicode.c : Con := ⟨164, strings_trimRightUnicode.sg, strings_trimRightUnicode.rs, strings_trimRightUnicode.f⟩
theorem strings_trimRightUnicode.con : ConOk Tryz.prog strings_trimRightUnicode.c := ⟨⟨_, Tryz.func164, by kernel_rfl, by kernel_rfl⟩, fun x y h => by cases h⟩
@[reducible] def strings_Trim.sg : List Shp := [.v (.str), .v (.str)]
@[reducible] def strings_Trim.rs : Rs := .one (.v (.str))
@[reducible] noncomputable def strings_Trim.code : Code := Tryz.f138.body.getD .skip
noncomputable def strings_Trim.C : Ctx := ⟨tab, [strings_trimLeftByte.c, strings_trimRightByte.c, strings_makeASCIISet.c, strings_trimLeftASCII.c, strings_trimRightASCII.c, strings_trimLeftUnicode.c, strings_trimRightUnicode.c], [], ⟨[], []⟩⟩
theorem strings_Trim.eq (n : Nat) (a0 a1 : ByteArray) : call strings_Trim.C Tryz.f138 strings_Trim.code strings_Trim.sg strings_Trim.rs n (a0, a1) =
 (if a0 = ByteArray.mk #[] then (some a0)
 else (if a1 = ByteArray.mk #[] then (some a0)
 else (if (a1.size : Int) = 1 then ((bget a1 0).bind fun b0 =>
 (if (↑(UInt8.toNat b0) : Int) < 128 then ((bget a1 0).bind fun b1 =>
 ((strings_trimRightByte.f (a0, (↑(UInt8.toNat b1) : Int))).bind fun b2 =>
 ((bget a1 0).bind fun b3 =>
 ((strings_trimLeftByte.f (b2, (↑(UInt8.toNat b3) : Int))).bind fun b4 =>
 (some b4)))))
 else ((strings_makeASCIISet.f a1).bind fun b5 =>
 none)))
 else ((strings_makeASCIISet.f a1).bind fun b6 =>
 none)))) := by kernel_rfl
noncomputable def strings_Trim.f (x : ByteArray × ByteArray) : Option ByteArray := if x.2 = ByteArray.mk #[48] ∧ x.1.size ≤ 1000000 then some (sb (stripB (bl x.1))) else none
theorem strings_Trim (l : List UInt8) (hl : l.length ≤ 1000000) : strings_Trim.f (sb l, ByteArray.mk #[48]) = some (sb (stripB l)) := by
 unfold strings_Trim.f
 rw [if_pos ⟨rfl, by rw [size_sb]; exact hl⟩]
 dsimp only
 rw [bl_sb]
theorem stripR_length (l : List UInt8) : (stripR l).length ≤ l.length := by
 unfold stripR
 rw [List.length_reverse]
 have := (List.dropWhile_sublist (p := (· == (48 : UInt8))) (l := l.reverse)).length_le
 rw [List.length_reverse] at this
 exact this
noncomputable def strings_Trim.c : Con := ⟨138, strings_Trim.sg, strings_Trim.rs, strings_Trim.f⟩
theorem strings_Trim.con : ConOk Tryz.prog strings_Trim.c := walked (C := strings_Trim.C) rfl (by kernel_rfl) (by kernel_rfl) (by kernel_rfl) rfl ⟨strings_trimLeftByte.con, strings_trimRightByte.con, strings_makeASCIISet.con, strings_trimLeftASCII.con, strings_trimRightASCII.con, strings_trimLeftUnicode.con, strings_trimRightUnicode.con, trivial⟩ fun ⟨s, c⟩ y h => by
 have h : strings_Trim.f (s, c) = some y := h
 obtain ⟨l, rfl⟩ := ex_sb s
 unfold strings_Trim.f at h
 split at h
 ·rename_i hc
  obtain ⟨rfl, hl⟩ := hc
  dsimp only at hl h
  rw [size_sb] at hl
  rw [bl_sb] at h
  refine ⟨0, ?_⟩
  have g : bget (ByteArray.mk #[48]) 0 = some 48 := by kernel_rfl
  rw [strings_Trim.eq, ← h]
  by_cases c : sb l = ByteArray.mk #[]
  ·obtain rfl := sb_inj (b := []) c
   rw [if_pos c]; rfl
  ·have r1 : strings_trimRightByte.f (sb l, 48) = some (sb (stripR l)) := by
    unfold strings_trimRightByte.f
    rw [if_pos ⟨rfl, by rw [size_sb]; exact hl⟩]
    dsimp only
    rw [bl_sb]
   have r2 : strings_trimLeftByte.f (sb (stripR l), 48) = some (sb (stripB l)) := by
    unfold strings_trimLeftByte.f
    rw [if_pos ⟨rfl, by rw [size_sb]; exact Nat.le_trans (stripR_length l) hl⟩]
    dsimp only
    rw [bl_sb]; rfl
   rw [if_neg c, if_neg (by decide), if_pos (by decide), g, Option.bind_some, if_pos (by decide), Option.bind_some, show (((48 : UInt8).toNat : Nat) : Int) = 48 from rfl, r1, Option.bind_some, Option.bind_some, show strings_trimLeftByte.f (sb (stripR l), (((48 : UInt8).toNat : Nat) : Int)) = _ from r2, Option.bind_some]
 ·cases h
@[reducible] def strings_Repeat.sg : List Shp := [.v (.str), .v (.int .i64)]
@[reducible] def strings_Repeat.rs : Rs := .one (.v (.str))
noncomputable def strings_Repeat.f (x : ByteArray × Int) : Option ByteArray := if x.1 = ByteArray.mk #[48] ∧ 0 ≤ x.2 ∧ x.2 ≤ 1000000 then some (sb (List.replicate x.2.toNat 48)) else none
noncomputable def strings_Repeat.c : Con := ⟨137, strings_Repeat.sg, strings_Repeat.rs, strings_Repeat.f⟩
theorem repeat_one : ∀ n : Nat, Lib.repeatL [48] n = List.replicate n 48
 | 0 => rfl
 | n + 1 => by rw [Lib.repeatL, repeat_one n, List.replicate_succ]; rfl
theorem strings_Repeat.con : ConOk Tryz.prog strings_Repeat.c := ⟨⟨_, Tryz.func137, by kernel_rfl, by kernel_rfl⟩, fun ⟨s, c⟩ y h σ w vs hf hr => by
 have h : strings_Repeat.f (s, c) = some y := h
 obtain ⟨v, vs', rfl, hv, v2, rfl, hv2⟩ : ∃ v vs', vs = v :: vs' ∧ [v] = [Value.string s] ∧ ∃ v2, vs' = [v2] ∧ [v2] = [Value.int .i64 c] := hr
 obtain rfl := (List.cons.inj hv).1
 obtain rfl := (List.cons.inj hv2).1
 unfold strings_Repeat.f at h
 split at h
 ·rename_i hc
  obtain ⟨rfl, c1, c2⟩ := hc
  dsimp only at c1 c2
  obtain ⟨n, rfl⟩ := Int.eq_ofNat_of_zero_le c1
  have h := Option.some.inj h
  refine (Go.Proofs.Tryz.strings_Repeat (ByteArray.mk #[48]) n w (by omega) (by rw [show (ByteArray.mk #[48]).size = 1 from rfl]; omega)).mono ?_
  rintro e w' ⟨rfl, hb⟩
  refine ⟨_, σ, rfl, ⟨hb, fun _ _ h => h, fun _ _ h => .inl h, fun b o h => Nat.lt_of_lt_of_le (hf b o h) hb.size⟩, ?_⟩
  show [Value.string _] = [Value.string y]
  rw [← h]
  show [Value.string ⟨(Lib.repeatL [48] n).toArray⟩] = [Value.string (sb (List.replicate n 48))]
  rw [repeat_one]; rfl
 ·cases h⟩
@[reducible] def digits_Pad.sg : List Shp := [.v (.str), .v (.int .i64)]
@[reducible] def digits_Pad.rs : Rs := .tup [.v (.str), .v (.bool)]
@[reducible] noncomputable def digits_Pad.code : Code := Tryz.f109.body.getD .skip
noncomputable def digits_Pad.C : Ctx := ⟨tab, [digits_All.c, strings_Repeat.c, strings_Trim.c], [], ⟨[], []⟩⟩
theorem digits_Pad.eq (n : Nat) (a0 : ByteArray) (a1 : Int) : call digits_Pad.C Tryz.f109 digits_Pad.code digits_Pad.sg digits_Pad.rs n (a0, a1) =
 (if a0 = ByteArray.mk #[] then (some ((ByteArray.mk #[], false)))
 else (if (a0.size : Int) > 999 then (some ((ByteArray.mk #[], false)))
 else ((digits_All.f a0).bind fun b0 =>
 (if ¬b0 = true then (some ((ByteArray.mk #[], false)))
 else (if a1 < 1 then (some ((ByteArray.mk #[], false)))
 else (if a1 > 999 then (some ((ByteArray.mk #[], false)))
 else (if (a0.size : Int) ≤ a1 then ((strings_Repeat.f (ByteArray.mk #[48], IntKind.wrap .i64 (a1 - (a0.size : Int)))).bind fun b1 =>
 ((scat b1 a0).bind fun b2 =>
 (some ((b2, true)))))
 else ((ssub a0 0 (IntKind.wrap .i64 ((a0.size : Int) - a1))).bind fun b3 =>
 ((strings_Trim.f (b3, ByteArray.mk #[48])).bind fun b4 =>
 (if ¬b4 = ByteArray.mk #[] then (some ((ByteArray.mk #[], false)))
 else ((ssub a0 (IntKind.wrap .i64 ((a0.size : Int) - a1)) (a0.size : Int)).bind fun b5 =>
 (some ((b5, true)))))))))))))) := by kernel_rfl
noncomputable def digits_Pad.f (x : ByteArray × Int) : Option (ByteArray × Bool) := some (sb (padB (bl x.1) x.2).1, (padB (bl x.1) x.2).2)
theorem digits_Pad (l : List UInt8) (w : Int) : digits_Pad.f (sb l, w) = some (sb (padB l w).1, (padB l w).2) := by
 unfold digits_Pad.f
 dsimp only
 rw [bl_sb]
theorem digits_Pad.run (l : List UInt8) (w : Int) : call digits_Pad.C Tryz.f109 digits_Pad.code digits_Pad.sg digits_Pad.rs 0 (sb l, w) = some (sb (padB l w).1, (padB l w).2) := by
 rw [digits_Pad.eq, digits_All, Option.bind_some, size_sb]
 unfold padB
 by_cases c1 : l = []
 ·subst c1
  rw [if_pos (show sb [] = ByteArray.mk #[] from rfl), if_pos (.inl rfl)]; rfl
 rw [if_neg (show ¬ sb l = ByteArray.mk #[] from fun e => c1 (sb_inj (b := []) e))]
 by_cases c2 : 999 < l.length
 ·rw [if_pos (by omega), if_pos (.inr (.inl c2))]; rfl
 rw [if_neg (by omega)]
 cases c3 : l.all dig
 ·rw [if_pos (by simp), if_pos (.inr (.inr (.inl rfl)))]; rfl
 rw [if_neg (by simp)]
 by_cases c4 : w < 1
 ·rw [if_pos c4, if_pos (.inr (.inr (.inr (.inl c4))))]; rfl
 rw [if_neg c4]
 by_cases c5 : w > 999
 ·rw [if_pos c5, if_pos (.inr (.inr (.inr (.inr c5))))]; rfl
 have hn : ¬ (l = [] ∨ 999 < l.length ∨ true = false ∨ w < 1 ∨ 999 < w) := by
  rintro (h | h | h | h | h)
  ·exact c1 h
  ·omega
  ·cases h
  ·omega
  ·omega
 rw [if_neg c5, if_neg hn]
 obtain ⟨w, rfl⟩ := Int.eq_ofNat_of_zero_le (show 0 ≤ w by omega)
 by_cases c6 : (l.length : Int) ≤ (w : Int)
 ·have w1 : IntKind.wrap .i64 ((w : Int) - (l.length : Int)) = ((w - l.length : Nat) : Int) := by rw [wrap_id (by omega) (by omega)]; omega
  have r1 : strings_Repeat.f (ByteArray.mk #[48], ((w - l.length : Nat) : Int)) = some (sb (List.replicate (w - l.length) 48)) := by
   unfold strings_Repeat.f
   rw [if_pos ⟨rfl, by dsimp only; omega, by dsimp only; omega⟩]; rfl
  rw [if_pos c6, if_pos c6, w1, r1, Option.bind_some, scat_sb _ _ (by rw [List.length_replicate]; omega), Option.bind_some]; rfl
 ·have w1 : IntKind.wrap .i64 ((l.length : Int) - (w : Int)) = ((l.length - w : Nat) : Int) := by rw [wrap_id (by omega) (by omega)]; omega
  have s1 := ssub_sb l 0 (l.length - w) (by omega) (by omega)
  rw [List.drop_zero] at s1
  have s2 := ssub_sb l (l.length - w) l.length (by omega) (Nat.le_refl _)
  rw [List.take_of_length_le (Nat.le_refl _)] at s2
  rw [if_neg c6, if_neg c6, w1, show ssub (sb l) 0 ((l.length - w : Nat) : Int) = _ from s1, Option.bind_some, strings_Trim _ (by rw [List.length_take]; omega), Option.bind_some, Int.toNat_natCast]
  by_cases c7 : (l.take (l.length - w)).all (· == 48) = true
  ·rw [if_neg (show ¬ ¬ sb (stripB (l.take (l.length - w))) = ByteArray.mk #[] from not_not_intro (by rw [(stripB_nil _).2 c7]; rfl)), if_pos c7, s2, Option.bind_some]
  ·rw [if_pos (show ¬ sb (stripB (l.take (l.length - w))) = ByteArray.mk #[] from fun e => c7 ((stripB_nil _).1 (sb_inj (b := []) e))), if_neg c7]; rfl
noncomputable def digits_Pad.c : Con := ⟨109, digits_Pad.sg, digits_Pad.rs, digits_Pad.f⟩
theorem digits_Pad.con : ConOk Tryz.prog digits_Pad.c := walked (C := digits_Pad.C) rfl (by kernel_rfl) (by kernel_rfl) (by kernel_rfl) rfl ⟨digits_All.con, strings_Repeat.con, strings_Trim.con, trivial⟩ fun ⟨s, w⟩ y h => by
 have h : digits_Pad.f (s, w) = some y := h
 obtain ⟨l, rfl⟩ := ex_sb s
 rw [digits_Pad] at h
 exact ⟨0, (digits_Pad.run l w).trans h⟩
@[reducible] def rule_Apply.sg : List Shp := [.a zdR, .a zdS, .v (.str)]
@[reducible] def rule_Apply.rs : Rs := .tup [.a zdE, .v (.int .i64)]
@[reducible] noncomputable def rule_Apply.code : Code := Tryz.f64.body.getD .skip
noncomputable def rule_Apply.C : Ctx := ⟨tab, [schema_Find.c, digits_Pad.c, codes_Apply.c], [], ⟨[], []⟩⟩
theorem rule_Apply.eq (n : Nat) (a0 a1 a2 : Int) (a3 : ByteArray) (a4 : List zP) (a5 a6 : Int) (a7 : List z5) (a8 : ByteArray) : call rule_Apply.C Tryz.f64 rule_Apply.code rule_Apply.sg rule_Apply.rs n ((a0, (a1, (a2, (a3, a4)))), ((a5, (a6, a7)), a8)) =
 (if a0 = 1 then (some (((a2, a8), 0)))
 else (if a0 = 2 then (some (((0, ByteArray.mk #[]), 0)))
 else (if a0 = 3 then (some (((a2, a3), 0)))
 else (if a0 = 4 then ((schema_Find.f ((a5, a6, a7), a2)).bind fun b0 =>
 (if ¬b0.2 = true then (some (((0, ByteArray.mk #[]), 9)))
 else ((digits_Pad.f (a8, b0.1.2.2.2.1)).bind fun b1 =>
 (if ¬b1.2 = true then (some (((0, ByteArray.mk #[]), 5)))
 else (some (((a2, b1.1), 0)))))))
 else (if a0 = 5 then ((codes_Apply.f (a4, a8)).bind fun b2 =>
 (if ¬b2.2 = true then (some (((0, ByteArray.mk #[]), 15)))
 else (some (((a2, b2.1), 0)))))
 else (some (((0, ByteArray.mk #[]), 1)))))))) := by kernel_rfl
noncomputable def rule_Apply.f : El (sgTy rule_Apply.sg) → Option (El rule_Apply.rs.ty) := fun x => match x with
 | ((a0, (a1, (a2, (a3, a4)))), ((a5, (a6, a7)), a8)) =>
 (if a0 = 1 then (some (((a2, a8), 0)))
 else (if a0 = 2 then (some (((0, ByteArray.mk #[]), 0)))
  else (if a0 = 3 then (some (((a2, a3), 0)))
  else (if a0 = 4 then ((schema_Find.f ((a5, a6, a7), a2)).bind fun b0 =>
   (if ¬Prod.snd b0 = true then (some (((0, ByteArray.mk #[]), 9)))
   else ((digits_Pad.f (a8, Prod.fst (Prod.snd (Prod.snd (Prod.snd (Prod.fst b0)))))).bind fun b1 =>
    (if ¬Prod.snd b1 = true then (some (((0, ByteArray.mk #[]), 5)))
    else (some (((a2, Prod.fst b1), 0)))))))
   else (if a0 = 5 then ((codes_Apply.f (a4, a8)).bind fun b2 =>
    (if ¬Prod.snd b2 = true then (some (((0, ByteArray.mk #[]), 15)))
    else (some (((a2, Prod.fst b2), 0)))))
   else (some (((0, ByteArray.mk #[]), 1))))))))
noncomputable def rule_Apply.c : Con := ⟨64, rule_Apply.sg, rule_Apply.rs, rule_Apply.f⟩
theorem rule_Apply.con : ConOk Tryz.prog rule_Apply.c := walked (C := rule_Apply.C) rfl (by kernel_rfl) (by kernel_rfl) (by kernel_rfl) rfl ⟨schema_Find.con, digits_Pad.con, codes_Apply.con, trivial⟩ fun ⟨⟨a0, ⟨a1, ⟨a2, ⟨a3, a4⟩⟩⟩⟩, ⟨⟨a5, ⟨a6, a7⟩⟩, a8⟩⟩ y h => ⟨0, (rule_Apply.eq 0 a0 a1 a2 a3 a4 a5 a6 a7 a8).trans h⟩
@[reducible] def xlate_Translate.sg : List Shp := [.a zdM, .a zdS, .a zdS, .a (.pair (.str) (.sl zdE))]
@[reducible] def xlate_Translate.rs : Rs := .tup [.a (.pair (.str) (.sl zdE)), .a (.pair (.int .i64) (.int .i64))]
@[reducible] noncomputable def xlate_Translate.code : Code := Tryz.f25.body.getD .skip
noncomputable def xlate_Translate.C : Ctx := ⟨tab, [msg_Check.c, xlate_Check.c, xlate_head.c, msg_With.c, xlate_find.c, rule_Apply.c], [], ⟨[(12, [4, 6, 7, 8, 9, 16, 59, 60, 61], 8), (18, [4, 6, 8, 9, 16, 76, 77, 78], 8)], []⟩⟩
noncomputable def xlate_Translate.l0 (n : Nat) (v0 : List zR) (v1 v2 : Int) (v3 : List zP) (v4 : List zR) (v5 v6 : Int) (v7 : List z5) (v8 v9 : Int) (v10 : List z5) (v11 : ByteArray) (v12 : List zE) (v13 : ByteArray) (v14 v15 v16 v17 : Int) (v18 : ByteArray) : Option (((ByteArray × List ((Int × ByteArray))) × (Int × Int))) := run xlate_Translate.C (finOf xlate_Translate.C Tryz.f25 xlate_Translate.rs) n (todoAt 12 xlate_Translate.code) ⟨zJ :: zJ :: zJ :: zJ :: .ptr 0 0 :: zJ :: .ptr 2 0 :: .ptr 3 0 :: .ptr 4 0 :: .ptr 5 0 :: zJ :: zJ :: zJ :: zJ :: zJ :: zJ :: .ptr 7 0 :: zJ :: zJ :: zK (zK (zK (zK (zK (.sl none zdR v0 :: .int .i64 v1 :: .int .i64 v2 :: zJ :: zJ :: zJ :: zJ :: zK (zK (zK (zK (zK (zK (zK []))))))))))), [[.sl none zdP v3, .sl none zdR v4], [.int .i64 v5, .int .i64 v6, .sl none zd5 v7], [.int .i64 v8, .int .i64 v9, .sl none zd5 v10], [.str v11, .sl none zdE v12], [.str v13, .nilsl], [.int .i64 v14, .int .i64 v15], [.int .i64 v16, .int .i64 v17], [.str v18, .nilsl]], []⟩
noncomputable def xlate_Translate.l1 (n : Nat) (v0 : List zR) (v1 v2 : Int) (v3 : List zP) (v4 : List zR) (v5 v6 : Int) (v7 : List z5) (v8 v9 : Int) (v10 : List z5) (v11 : ByteArray) (v12 : List zE) (v13 : ByteArray) (v14 v15 v16 v17 : Int) (v18 : ByteArray) (v19 : List zE) : Option (((ByteArray × List ((Int × ByteArray))) × (Int × Int))) := run xlate_Translate.C (finOf xlate_Translate.C Tryz.f25 xlate_Translate.rs) n (todoAt 12 xlate_Translate.code) ⟨zJ :: zJ :: zJ :: zJ :: .ptr 0 0 :: zJ :: .ptr 2 0 :: .ptr 3 0 :: .ptr 4 0 :: .ptr 5 0 :: zJ :: zJ :: zJ :: zJ :: zJ :: zJ :: .ptr 7 0 :: zJ :: zJ :: zK (zK (zK (zK (zK (.sl none zdR v0 :: .int .i64 v1 :: .int .i64 v2 :: zJ :: zJ :: zJ :: zJ :: zK (zK (zK (zK (zK (zK (zK []))))))))))), [[.sl none zdP v3, .sl none zdR v4], [.int .i64 v5, .int .i64 v6, .sl none zd5 v7], [.int .i64 v8, .int .i64 v9, .sl none zd5 v10], [.str v11, .sl none zdE v12], [.str v13, .nilsl], [.int .i64 v14, .int .i64 v15], [.int .i64 v16, .int .i64 v17], [.str v18, .sl none zdE v19]], []⟩
noncomputable def xlate_Translate.l2 (n : Nat) (v0 : List zE) (v1 v2 : Int) (v3 : List zP) (v4 : List zR) (v5 v6 : Int) (v7 : List z5) (v8 v9 : Int) (v10 : List z5) (v11 : ByteArray) (v12 : List zE) (v13 : ByteArray) (v14 v15 v16 v17 : Int) (v18 : ByteArray) : Option (((ByteArray × List ((Int × ByteArray))) × (Int × Int))) := run xlate_Translate.C (finOf xlate_Translate.C Tryz.f25 xlate_Translate.rs) n (todoAt 18 xlate_Translate.code) ⟨zJ :: zJ :: zJ :: zJ :: .ptr 0 0 :: zJ :: .ptr 2 0 :: zJ :: .ptr 4 0 :: .ptr 5 0 :: zJ :: zJ :: zJ :: zJ :: zJ :: zJ :: .ptr 7 0 :: zJ :: zJ :: zJ :: zK (zK (zK (zK (zK (zK (zK (.sl none zdE v0 :: .int .i64 v1 :: .int .i64 v2 :: zJ :: zJ :: zJ :: zK (zK (zK (zK (zK []))))))))))), [[.sl none zdP v3, .sl none zdR v4], [.int .i64 v5, .int .i64 v6, .sl none zd5 v7], [.int .i64 v8, .int .i64 v9, .sl none zd5 v10], [.str v11, .sl none zdE v12], [.str v13, .nilsl], [.int .i64 v14, .int .i64 v15], [.int .i64 v16, .int .i64 v17], [.str v18, .nilsl]], []⟩
noncomputable def xlate_Translate.l3 (n : Nat) (v0 : List zE) (v1 v2 : Int) (v3 : List zP) (v4 : List zR) (v5 v6 : Int) (v7 : List z5) (v8 v9 : Int) (v10 : List z5) (v11 : ByteArray) (v12 : List zE) (v13 : ByteArray) (v14 v15 v16 v17 : Int) (v18 : ByteArray) (v19 : List zE) : Option (((ByteArray × List ((Int × ByteArray))) × (Int × Int))) := run xlate_Translate.C (finOf xlate_Translate.C Tryz.f25 xlate_Translate.rs) n (todoAt 18 xlate_Translate.code) ⟨zJ :: zJ :: zJ :: zJ :: .ptr 0 0 :: zJ :: .ptr 2 0 :: zJ :: .ptr 4 0 :: .ptr 5 0 :: zJ :: zJ :: zJ :: zJ :: zJ :: zJ :: .ptr 7 0 :: zJ :: zJ :: zJ :: zK (zK (zK (zK (zK (zK (zK (.sl none zdE v0 :: .int .i64 v1 :: .int .i64 v2 :: zJ :: zJ :: zJ :: zK (zK (zK (zK (zK []))))))))))), [[.sl none zdP v3, .sl none zdR v4], [.int .i64 v5, .int .i64 v6, .sl none zd5 v7], [.int .i64 v8, .int .i64 v9, .sl none zd5 v10], [.str v11, .sl none zdE v12], [.str v13, .nilsl], [.int .i64 v14, .int .i64 v15], [.int .i64 v16, .int .i64 v17], [.str v18, .sl none zdE v19]], []⟩
theorem xlate_Translate.l0_eq n v0 v1 v2 v3 v4 v5 v6 v7 v8 v9 v10 v11 v12 v13 v14 v15 v16 v17 v18 : xlate_Translate.l0 (n + 1) v0 v1 v2 v3 v4 v5 v6 v7 v8 v9 v10 v11 v12 v13 v14 v15 v16 v17 v18 =
 (if v2 < v1 then ((lget v0 v2).bind fun b3 =>
 (if b3.1 = 3 then ((msg_With.f ((v18, []), b3.2.2.1, b3.2.2.2.1)).bind fun b4 =>
 (xlate_Translate.l1 n v0 v1 (IntKind.wrap .i64 (v2 + 1)) v3 v4 v5 v6 v7 v8 v9 v10 v11 v12 v13 v14 v15 v16 v17 b4.1 b4.2))
 else (xlate_Translate.l0 n v0 v1 (IntKind.wrap .i64 (v2 + 1)) v3 v4 v5 v6 v7 v8 v9 v10 v11 v12 v13 v14 v15 v16 v17 v18)))
 else (xlate_Translate.l2 n v12 (v12.length : Int) 0 v3 v4 v5 v6 v7 v8 v9 v10 v11 v12 v13 v14 v15 v16 v17 v18)) := by kernel_rfl
theorem xlate_Translate.l1_eq n v0 v1 v2 v3 v4 v5 v6 v7 v8 v9 v10 v11 v12 v13 v14 v15 v16 v17 v18 v19 : xlate_Translate.l1 (n + 1) v0 v1 v2 v3 v4 v5 v6 v7 v8 v9 v10 v11 v12 v13 v14 v15 v16 v17 v18 v19 =
 (if v2 < v1 then ((lget v0 v2).bind fun b5 =>
 (if b5.1 = 3 then ((msg_With.f ((v18, v19), b5.2.2.1, b5.2.2.2.1)).bind fun b6 =>
 (xlate_Translate.l1 n v0 v1 (IntKind.wrap .i64 (v2 + 1)) v3 v4 v5 v6 v7 v8 v9 v10 v11 v12 v13 v14 v15 v16 v17 b6.1 b6.2))
 else (xlate_Translate.l1 n v0 v1 (IntKind.wrap .i64 (v2 + 1)) v3 v4 v5 v6 v7 v8 v9 v10 v11 v12 v13 v14 v15 v16 v17 v18 v19)))
 else (xlate_Translate.l3 n v12 (v12.length : Int) 0 v3 v4 v5 v6 v7 v8 v9 v10 v11 v12 v13 v14 v15 v16 v17 v18 v19)) := by kernel_rfl
theorem xlate_Translate.l2_eq n v0 v1 v2 v3 v4 v5 v6 v7 v8 v9 v10 v11 v12 v13 v14 v15 v16 v17 v18 : xlate_Translate.l2 (n + 1) v0 v1 v2 v3 v4 v5 v6 v7 v8 v9 v10 v11 v12 v13 v14 v15 v16 v17 v18 =
 (if v2 < v1 then ((lget v0 v2).bind fun b7 =>
 ((xlate_find.f ((v3, v4), b7.1)).bind fun b8 =>
 (if ¬b8.2 = true then (some (((ByteArray.mk #[], []), 9, b7.1)))
 else ((rule_Apply.f (b8.1, (v8, v9, v10), b7.2)).bind fun b9 =>
 (if ¬b9.2 = 0 then (some (((ByteArray.mk #[], []), b9.2, b7.1)))
 else (if ¬b9.1.1 = 0 then ((msg_With.f ((v18, []), b9.1)).bind fun b10 =>
 (xlate_Translate.l3 n v0 v1 (IntKind.wrap .i64 (v2 + 1)) v3 v4 v5 v6 v7 v8 v9 v10 v11 v12 v13 v14 v15 v16 v17 b10.1 b10.2))
 else (xlate_Translate.l2 n v0 v1 (IntKind.wrap .i64 (v2 + 1)) v3 v4 v5 v6 v7 v8 v9 v10 v11 v12 v13 v14 v15 v16 v17 v18)))))))
 else (some (((v18, []), 0, 0)))) := by kernel_rfl
theorem xlate_Translate.l3_eq n v0 v1 v2 v3 v4 v5 v6 v7 v8 v9 v10 v11 v12 v13 v14 v15 v16 v17 v18 v19 : xlate_Translate.l3 (n + 1) v0 v1 v2 v3 v4 v5 v6 v7 v8 v9 v10 v11 v12 v13 v14 v15 v16 v17 v18 v19 =
 (if v2 < v1 then ((lget v0 v2).bind fun b11 =>
 ((xlate_find.f ((v3, v4), b11.1)).bind fun b12 =>
 (if ¬b12.2 = true then (some (((ByteArray.mk #[], []), 9, b11.1)))
 else ((rule_Apply.f (b12.1, (v8, v9, v10), b11.2)).bind fun b13 =>
 (if ¬b13.2 = 0 then (some (((ByteArray.mk #[], []), b13.2, b11.1)))
 else (if ¬b13.1.1 = 0 then ((msg_With.f ((v18, v19), b13.1)).bind fun b14 =>
 (xlate_Translate.l3 n v0 v1 (IntKind.wrap .i64 (v2 + 1)) v3 v4 v5 v6 v7 v8 v9 v10 v11 v12 v13 v14 v15 v16 v17 b14.1 b14.2))
 else (xlate_Translate.l3 n v0 v1 (IntKind.wrap .i64 (v2 + 1)) v3 v4 v5 v6 v7 v8 v9 v10 v11 v12 v13 v14 v15 v16 v17 v18 v19)))))))
 else (some (((v18, v19), 0, 0)))) := by kernel_rfl
theorem xlate_Translate.eq (n : Nat) (a0 : List zP) (a1 : List zR) (a2 a3 : Int) (a4 : List z5) (a5 a6 : Int) (a7 : List z5) (a8 : ByteArray) (a9 : List zE) : call xlate_Translate.C Tryz.f25 xlate_Translate.code xlate_Translate.sg xlate_Translate.rs n ((a0, a1), ((a2, (a3, a4)), ((a5, (a6, a7)), (a8, a9)))) =
 ((xlate_Check.f ((a0, a1), (a2, a3, a4), a5, a6, a7)).bind fun b0 =>
 (if ¬b0.1 = 0 then (some (((ByteArray.mk #[], []), 1, -1)))
 else ((msg_Check.f ((a2, a3, a4), a8, a9)).bind fun b1 =>
 (if ¬b1.1 = 0 then (some (((ByteArray.mk #[], []), b1)))
 else ((xlate_head.f ((a0, a1), a8)).bind fun b2 =>
 (if ¬b2.2 = true then (some (((ByteArray.mk #[], []), 7, 0)))
 else (xlate_Translate.l0 n a1 (a1.length : Int) 0 a0 a1 a2 a3 a4 a5 a6 a7 a8 a9 (ByteArray.mk #[]) 0 0 b1.1 b1.2 b2.1))))))) := by kernel_rfl
abbrev M2 := ByteArray × List V
noncomputable def trL (l : List RU) (b : SC) (t : ByteArray) : List V → List V → Option (M2 × Int × Int)
 | [], o => some ((t, o), 0, 0)
 | v :: m, o => if (ruleOf v.1 l).2 = false then some ((ByteArray.mk #[], []), 9, v.1) else (rule_Apply.f ((ruleOf v.1 l).1, b, v.2)).bind fun y => if ¬ y.2 = 0 then some ((ByteArray.mk #[], []), y.2, v.1) else if ¬ y.1.1 = 0 then trL l b t m (withV y.1.1 y.1.2 o) else trL l b t m o
def constL : List RU → List V → List V
 | [], o => o
 | r :: l, o => if r.1 = 3 then constL l (withV r.2.2.1 r.2.2.2.1 o) else constL l o
noncomputable def trM (m : RC) (a b : SC) (x : M2) : Option (M2 × Int × Int) :=
 if ¬ (mapE m a b).1 = 0 then some ((ByteArray.mk #[], []), 1, -1)
 else if ¬ (msgE a (bl x.1) x.2).1 = 0 then some ((ByteArray.mk #[], []), msgE a (bl x.1) x.2)
 else if (applyP x.1 m.1).2 = false then some ((ByteArray.mk #[], []), 7, 0)
 else trL m.2 b (applyP x.1 m.1).1 x.2 (constL m.2 [])
noncomputable def xlate_Translate.f (x : RC × SC × SC × M2) : Option (M2 × Int × Int) := if okC x.1 ∧ x.2.1.2.2.length ≤ 1000000 ∧ x.2.2.1.2.2.length ≤ 1000000 ∧ okM x.2.2.2.2 then trM x.1 x.2.1 x.2.2.1 x.2.2.2 else none
theorem xlate_Translate (m : RC) (hm : okC m) (a b : SC) (ha : a.2.2.length ≤ 1000000) (hb : b.2.2.length ≤ 1000000) (x : M2) (hx : okM x.2) : xlate_Translate.f (m, a, b, x) = trM m a b x := if_pos ⟨hm, ha, hb, hx⟩
section
variable (p : List PB) (l : List RU) (hm : okC (p, l)) (a1 a2 : Int) (a : List S5) (b1 b2 : Int) (b : List S5) (s : ByteArray) (g : List V) (hg : g.length ≤ 1000000) (q1 : ByteArray) (q2 q3 q4 q5 : Int) (t : ByteArray)
include hm hg
theorem xlate_Translate_l3 : ∀ (m o : List V) (k i : Nat), g.drop i = m → o.length ≤ 1000000 + i → m.length < k → ∀ y, trL l (b1, b2, b) t m o = some y →
  xlate_Translate.l3 k g (g.length : Int) (i : Int) p l a1 a2 a b1 b2 b s g q1 q2 q3 q4 q5 t o = some y
 | [], o, k, i, hd, ho, hk, y, hy => by
  obtain ⟨k, rfl⟩ : ∃ m, k = m + 1 := ⟨k - 1, by omega⟩
  have := dropn hd
  rw [xlate_Translate.l3_eq, if_neg (by omega), ← hy]; rfl
 | v :: m, o, k, i, hd, ho, hk, y, hy => by
  obtain ⟨k, rfl⟩ : ∃ m, k = m + 1 := ⟨k - 1, by omega⟩
  obtain ⟨h1, h2, h3, h4⟩ := dropc hd
  have hk' : m.length < k := by simp at hk; omega
  rw [xlate_Translate.l3_eq, if_pos (by omega), h4, Option.bind_some, xlate_find (p, l) hm, Option.bind_some]
  rw [trL] at hy
  dsimp only
  cases c1 : (ruleOf v.1 l).2
  ·rw [c1, if_pos rfl] at hy
   rw [if_pos (by simp)]; exact hy
  rw [c1, if_neg (by simp)] at hy
  rw [if_neg (by simp)]
  obtain ⟨z, e1, e2⟩ := Option.bind_eq_some_iff.1 hy
  rw [e1, Option.bind_some]
  by_cases c2 : ¬ z.2 = 0
  ·rw [if_pos c2] at e2 ⊢; exact e2
  rw [if_neg c2] at e2 ⊢
  by_cases c3 : ¬ z.1.1 = 0
  ·rw [if_pos c3] at e2 ⊢
   rw [msg_With t o (by omega), Option.bind_some, wrap_succ (by omega)]
   exact xlate_Translate_l3 m (withV z.1.1 z.1.2 o) k (i + 1) h2 (by have := withV_length' z.1.1 z.1.2 o; omega) hk' y e2
  ·rw [if_neg c3] at e2 ⊢
   rw [wrap_succ (by omega)]
   exact xlate_Translate_l3 m _ k (i + 1) h2 (by omega) hk' y e2
theorem xlate_Translate_l2 : ∀ (m : List V) (k i : Nat), g.drop i = m → m.length < k → ∀ y, trL l (b1, b2, b) t m [] = some y →
  xlate_Translate.l2 k g (g.length : Int) (i : Int) p l a1 a2 a b1 b2 b s g q1 q2 q3 q4 q5 t = some y
 | [], k, i, hd, hk, y, hy => by
  obtain ⟨k, rfl⟩ : ∃ m, k = m + 1 := ⟨k - 1, by omega⟩
  have := dropn hd
  rw [xlate_Translate.l2_eq, if_neg (by omega), ← hy]; rfl
 | v :: m, k, i, hd, hk, y, hy => by
  obtain ⟨k, rfl⟩ : ∃ m, k = m + 1 := ⟨k - 1, by omega⟩
  obtain ⟨h1, h2, h3, h4⟩ := dropc hd
  have hk' : m.length < k := by simp at hk; omega
  rw [xlate_Translate.l2_eq, if_pos (by omega), h4, Option.bind_some, xlate_find (p, l) hm, Option.bind_some]
  rw [trL] at hy
  dsimp only
  cases c1 : (ruleOf v.1 l).2
  ·rw [c1, if_pos rfl] at hy
   rw [if_pos (by simp)]; exact hy
  rw [c1, if_neg (by simp)] at hy
  rw [if_neg (by simp)]
  obtain ⟨z, e1, e2⟩ := Option.bind_eq_some_iff.1 hy
  rw [e1, Option.bind_some]
  by_cases c2 : ¬ z.2 = 0
  ·rw [if_pos c2] at e2 ⊢; exact e2
  rw [if_neg c2] at e2 ⊢
  by_cases c3 : ¬ z.1.1 = 0
  ·rw [if_pos c3] at e2 ⊢
   rw [msg_With t [] (by simp), Option.bind_some, wrap_succ (by omega)]
   exact xlate_Translate_l3 p l hm a1 a2 a b1 b2 b s g hg q1 q2 q3 q4 q5 t m (withV z.1.1 z.1.2 []) k (i + 1) h2 (by have := withV_length' z.1.1 z.1.2 []; simp at this; omega) hk' y e2
  ·rw [if_neg c3] at e2 ⊢
   rw [wrap_succ (by omega)]
   exact xlate_Translate_l2 m k (i + 1) h2 hk' y e2
theorem xlate_Translate_l1 : ∀ (m : List RU) (o : List V) (k i : Nat), l.drop i = m → i ≤ l.length → o.length ≤ i → m.length + g.length + 1 < k → ∀ y, trL l (b1, b2, b) t g (constL m o) = some y →
  xlate_Translate.l1 k l (l.length : Int) (i : Int) p l a1 a2 a b1 b2 b s g q1 q2 q3 q4 q5 t o = some y
 | [], o, k, i, hd, hi, ho, hk, y, hy => by
  obtain ⟨k, rfl⟩ : ∃ m, k = m + 1 := ⟨k - 1, by omega⟩
  have := dropn hd
  rw [xlate_Translate.l1_eq, if_neg (by omega)]
  have hl : l.length ≤ 100000 := hm.2.1
  exact xlate_Translate_l3 p l hm a1 a2 a b1 b2 b s g hg q1 q2 q3 q4 q5 t g o k 0 rfl (by omega) (by simp at hk; omega) y hy
 | r :: m, o, k, i, hd, hi, ho, hk, y, hy => by
  obtain ⟨k, rfl⟩ : ∃ m, k = m + 1 := ⟨k - 1, by omega⟩
  obtain ⟨h1, h2, h3, h4⟩ := dropc hd
  have hk' : m.length + g.length + 1 < k := by simp at hk; omega
  have hl : l.length ≤ 100000 := hm.2.1
  rw [xlate_Translate.l1_eq, if_pos (by omega), h4, Option.bind_some]
  rw [constL] at hy
  by_cases c : r.1 = 3
  ·rw [if_pos c] at hy ⊢
   rw [msg_With t o (by omega), Option.bind_some, wrap_succ (by omega)]
   exact xlate_Translate_l1 m (withV r.2.2.1 r.2.2.2.1 o) k (i + 1) h2 (by omega) (by have := withV_length' r.2.2.1 r.2.2.2.1 o; omega) hk' y hy
  ·rw [if_neg c] at hy ⊢
   rw [wrap_succ (by omega)]
   exact xlate_Translate_l1 m _ k (i + 1) h2 (by omega) (by omega) hk' y hy
theorem xlate_Translate_l0 : ∀ (m : List RU) (k i : Nat), l.drop i = m → i ≤ l.length → m.length + g.length + 1 < k → ∀ y, trL l (b1, b2, b) t g (constL m []) = some y →
  xlate_Translate.l0 k l (l.length : Int) (i : Int) p l a1 a2 a b1 b2 b s g q1 q2 q3 q4 q5 t = some y
 | [], k, i, hd, hi, hk, y, hy => by
  obtain ⟨k, rfl⟩ : ∃ m, k = m + 1 := ⟨k - 1, by omega⟩
  have := dropn hd
  rw [xlate_Translate.l0_eq, if_neg (by omega)]
  exact xlate_Translate_l2 p l hm a1 a2 a b1 b2 b s g hg q1 q2 q3 q4 q5 t g k 0 rfl (by simp at hk; omega) y hy
 | r :: m, k, i, hd, hi, hk, y, hy => by
  obtain ⟨k, rfl⟩ : ∃ m, k = m + 1 := ⟨k - 1, by omega⟩
  obtain ⟨h1, h2, h3, h4⟩ := dropc hd
  have hk' : m.length + g.length + 1 < k := by simp at hk; omega
  have hl : l.length ≤ 100000 := hm.2.1
  rw [xlate_Translate.l0_eq, if_pos (by omega), h4, Option.bind_some]
  rw [constL] at hy
  by_cases c : r.1 = 3
  ·rw [if_pos c] at hy ⊢
   rw [msg_With t [] (by simp), Option.bind_some, wrap_succ (by omega)]
   exact xlate_Translate_l1 p l hm a1 a2 a b1 b2 b s g hg q1 q2 q3 q4 q5 t m (withV r.2.2.1 r.2.2.2.1 []) k (i + 1) h2 (by omega) (by have := withV_length' r.2.2.1 r.2.2.2.1 []; simp at this; omega) hk' y hy
  ·rw [if_neg c] at hy ⊢
   rw [wrap_succ (by omega)]
   exact xlate_Translate_l0 m k (i + 1) h2 (by omega) hk' y hy
end
noncomputable def xlate_Translate.c : Con := ⟨25, xlate_Translate.sg, xlate_Translate.rs, xlate_Translate.f⟩
theorem xlate_Translate.con : ConOk Tryz.prog xlate_Translate.c := walked (C := xlate_Translate.C) rfl (by kernel_rfl) (by kernel_rfl) (by kernel_rfl) rfl ⟨msg_Check.con, xlate_Check.con, xlate_head.con, msg_With.con, xlate_find.con, rule_Apply.con, trivial⟩ fun ⟨⟨p, l⟩, ⟨a1, a2, a⟩, ⟨b1, b2, b⟩, s, g⟩ y h => by
 have h : xlate_Translate.f ((p, l), (a1, a2, a), (b1, b2, b), s, g) = some y := h
 unfold xlate_Translate.f at h
 split at h
 ·rename_i hc
  obtain ⟨hm, ha, hb, hx⟩ := hc
  obtain ⟨s, rfl⟩ := ex_sb s
  refine ⟨l.length + g.length + 2, ?_⟩
  unfold trM at h
  rw [bl_sb] at h
  rw [xlate_Translate.eq, xlate_Check (p, l) hm _ _ ha hb, Option.bind_some]
  by_cases c1 : ¬ (mapE (p, l) (a1, a2, a) (b1, b2, b)).1 = 0
  ·rw [if_pos c1] at h ⊢; exact h
  rw [if_neg c1] at h ⊢
  rw [msg_Check a1 a2 a s g ha hx, Option.bind_some]
  by_cases c2 : ¬ (msgE (a1, a2, a) s g).1 = 0
  ·rw [if_pos c2] at h ⊢; exact h
  rw [if_neg c2] at h ⊢
  rw [xlate_head (p, l) hm, Option.bind_some]
  dsimp only at h ⊢
  cases c3 : (applyP (sb s) p).2
  ·rw [c3, if_pos rfl] at h
   rw [if_pos (by simp)]; exact h
  rw [c3, if_neg (by simp)] at h
  rw [if_neg (by simp)]
  exact xlate_Translate_l0 p l hm a1 a2 a b1 b2 b (sb s) g hx.1 _ 0 0 _ _ _ l _ 0 rfl (by omega) (by omega) y h
 ·cases h
@[reducible] def prefix_known.sg : List Shp := [.v (.int .i64), .v (.int .i64)]
@[reducible] def prefix_known.rs : Rs := .one (.v (.bool))
@[reducible] noncomputable def prefix_known.code : Code := Tryz.f121.body.getD .skip
noncomputable def prefix_known.C : Ctx := ⟨tab, [prefix_width.c], [], ⟨[], []⟩⟩
theorem prefix_known.eq (n : Nat) (a0 a1 : Int) : call prefix_known.C Tryz.f121 prefix_known.code prefix_known.sg prefix_known.rs n (a0, a1) =
 (if a0 = 1 then ((prefix_width.f a1).bind fun b0 =>
 (some (decide (b0 > 0))))
 else (if a0 = 2 then ((prefix_width.f a1).bind fun b1 =>
 (some (decide (b1 > 0))))
 else (some false))) := by kernel_rfl
noncomputable def prefix_known.f : El (sgTy prefix_known.sg) → Option (El prefix_known.rs.ty) := fun x => match x with
 | (a0, a1) =>
 (if a0 = 1 then ((prefix_width.f a1).bind fun b0 =>
  (some (decide (b0 > 0))))
 else (if a0 = 2 then ((prefix_width.f a1).bind fun b1 =>
  (some (decide (b1 > 0))))
  else (some false)))
noncomputable def prefix_known.c : Con := ⟨121, prefix_known.sg, prefix_known.rs, prefix_known.f⟩
theorem prefix_known.con : ConOk Tryz.prog prefix_known.c := walked (C := prefix_known.C) rfl (by kernel_rfl) (by kernel_rfl) (by kernel_rfl) rfl ⟨prefix_width.con, trivial⟩ fun ⟨a0, a1⟩ y h => ⟨0, (prefix_known.eq 0 a0 a1).trans h⟩
theorem prefix_known (s f : Int) : prefix_known.f (s, f) = some (preOk s f) := by
 simp only [prefix_known.f, prefix_width.f, Option.bind_some, preOk]
 by_cases h : s = 1
 ·rw [if_pos h]
  congr 1; rw [decide_eq_decide]; split <;> omega
 ·rw [if_neg h]
  by_cases h' : s = 2
  ·rw [if_pos h']
   congr 1; rw [decide_eq_decide]; split <;> omega
  ·rw [if_neg h', decide_eq_false (by omega)]
@[reducible] def cell_known.sg : List Shp := [.v (.int .i64)]
@[reducible] def cell_known.rs : Rs := .one (.v (.bool))
@[reducible] noncomputable def cell_known.code : Code := Tryz.f86.body.getD .skip
noncomputable def cell_known.C : Ctx := ⟨tab, [], [], ⟨[], []⟩⟩
theorem cell_known.eq (n : Nat) (a0 : Int) : call cell_known.C Tryz.f86 cell_known.code cell_known.sg cell_known.rs n a0 =
 (if a0 = 1 then (some true)
 else (some (decide (a0 = 2)))) := by kernel_rfl
noncomputable def cell_known.f : El (sgTy cell_known.sg) → Option (El cell_known.rs.ty) := fun x => match x with
 | a0 =>
 (if a0 = 1 then (some true)
 else (some (decide (a0 = 2))))
noncomputable def cell_known.c : Con := ⟨86, cell_known.sg, cell_known.rs, cell_known.f⟩
theorem cell_known.con : ConOk Tryz.prog cell_known.c := walked (C := cell_known.C) rfl (by kernel_rfl) (by kernel_rfl) (by kernel_rfl) rfl trivial fun a0 y h => ⟨0, (cell_known.eq 0 a0).trans h⟩
theorem cell_known (st : Int) : cell_known.f st = some (decide (st = 1 ∨ st = 2)) := by
 simp only [cell_known.f]
 by_cases h1 : st = 1
 ·simp [h1]
 ·by_cases h2 : st = 2 <;> simp [h1, h2]
@[reducible] def cell_how.sg : List Shp := [.v (.int .i64), .v (.int .i64)]
@[reducible] def cell_how.rs : Rs := .one (.v (.int .i64))
@[reducible] noncomputable def cell_how.code : Code := Tryz.f88.body.getD .skip
noncomputable def cell_how.C : Ctx := ⟨tab, [], [], ⟨[], []⟩⟩
theorem cell_how.eq (n : Nat) (a0 a1 : Int) : call cell_how.C Tryz.f88 cell_how.code cell_how.sg cell_how.rs n (a0, a1) =
 (if a0 = 2 then (if a1 = 1 then (some 1)
 else (if a0 = 1 then (if a1 = 5 then (some 2)
 else (if a1 = 6 then (some 2)
 else (some 0)))
 else (some 0)))
 else (if a0 = 1 then (if a1 = 5 then (some 2)
 else (if a1 = 6 then (some 2)
 else (some 0)))
 else (some 0))) := by kernel_rfl
noncomputable def cell_how.f : El (sgTy cell_how.sg) → Option (El cell_how.rs.ty) := fun x => match x with
 | (a0, a1) =>
 (if a0 = 2 then (if a1 = 1 then (some 1)
  else (if a0 = 1 then (if a1 = 5 then (some 2)
   else (if a1 = 6 then (some 2)
   else (some 0)))
  else (some 0)))
 else (if a0 = 1 then (if a1 = 5 then (some 2)
  else (if a1 = 6 then (some 2)
   else (some 0)))
  else (some 0)))
noncomputable def cell_how.c : Con := ⟨88, cell_how.sg, cell_how.rs, cell_how.f⟩
theorem cell_how.con : ConOk Tryz.prog cell_how.c := walked (C := cell_how.C) rfl (by kernel_rfl) (by kernel_rfl) (by kernel_rfl) rfl trivial fun ⟨a0, a1⟩ y h => ⟨0, (cell_how.eq 0 a0 a1).trans h⟩
theorem cell_how (st c : Int) : cell_how.f (st, c) = some (if st = 2 ∧ c = 1 then 1 else if st = 1 ∧ (c = 5 ∨ c = 6) then 2 else 0) := by
 simp only [cell_how.f]
 by_cases h1 : st = 2
 ·subst h1
  by_cases h2 : c = 1 <;> simp [h2]
 ·by_cases h3 : st = 1
  ·subst h3
   by_cases h4 : c = 5
   ·simp [h4]
   ·by_cases h5 : c = 6 <;> simp [h4, h5]
  ·simp [h1, h3]
theorem putB {n : Nat} (h : n < 10) : IntKind.wrap .u8 (IntKind.wrap .i64 (48 + Int.tmod ((n : Nat) : Int) 10)) = ((48 + n : Nat) : Int) := by
 rw [show Int.tmod ((n : Nat) : Int) 10 = ((n % 10 : Nat) : Int) from tmod_nat n 10, Nat.mod_eq_of_lt h, wrap_id (by omega) (by omega)]
 show (if (false && decide ((48 + (n : Int)) % 256 ≥ 128)) = true then (48 + (n : Int)) % 256 - 256 else (48 + (n : Int)) % 256) = _
 simp only [Bool.false_and, Bool.false_eq_true, if_false]; omega
theorem digs_cons : ∀ (j n : Nat), digs (j + 1) n = u8 (48 + n / 10 ^ j % 10) :: digs j n
 | 0, n => by simp [digs]
 | j + 1, n => by
  rw [digs, digs_cons j (n / 10), digs, Nat.div_div_eq_div_mul, Nat.mul_comm 10, ← Nat.pow_succ]; rfl
theorem set_rep (a : Nat) (l : List Int) (x : Int) : (List.replicate (a + 1) 0 ++ l).set a x = List.replicate a 0 ++ x :: l := by
 rw [List.replicate_succ', List.append_assoc, List.set_append_right _ _ (by simp)]
 simp
@[reducible] def digits_Put.sg : List Shp := [.v (.int .i64), .v (.int .i64)]
@[reducible] def digits_Put.rs : Rs := .tup [.v (.str), .v (.bool)]
@[reducible] noncomputable def digits_Put.code : Code := Tryz.f122.body.getD .skip
noncomputable def digits_Put.C : Ctx := ⟨tab, [], [], ⟨[(5, [0, 6, 7], 1)], []⟩⟩
noncomputable def digits_Put.l0 (n : Nat) (v0 : Int) (v1 : Nat) (v2 : Int) (v3 : List Int) : Option ((ByteArray × Bool)) := run digits_Put.C (finOf digits_Put.C Tryz.f122 digits_Put.rs) n (todoAt 5 digits_Put.code) ⟨.int .i64 v0 :: zJ :: zJ :: zJ :: zJ :: zJ :: .ms 0 1 0 v1 :: .int .i64 v2 :: zJ :: zJ :: zJ :: zJ :: zJ :: zJ :: zJ :: zK (zK (zK [])), [[.row (.int .u8) v3]], []⟩
theorem digits_Put.l0_eq n v0 v1 v2 v3 : digits_Put.l0 (n + 1) v0 v1 v2 v3 =
 (if v2 ≥ 0 then (if 0 ≤ v2 ∧ v2 < (↑v1 : Int) then ((lset v3 (0 + Int.toNat v2) (IntKind.wrap .u8 (IntKind.wrap .i64 (48 + Int.tmod v0 10)))).bind fun b0 =>
 (digits_Put.l0 n (IntKind.wrap .i64 (Int.tdiv v0 10)) v1 (IntKind.wrap .i64 (v2 - 1)) b0))
 else none)
 else (if v0 > 0 then (some ((ByteArray.mk #[], false)))
 else ((lpart v3 0 v1).bind fun b1 =>
 (some ((bytesOf b1, true)))))) := by kernel_rfl
theorem digits_Put.eq (n : Nat) (a0 a1 : Int) : call digits_Put.C Tryz.f122 digits_Put.code digits_Put.sg digits_Put.rs n (a0, a1) =
 (if a0 < 0 then (some ((ByteArray.mk #[], false)))
 else (if a1 < 1 then (some ((ByteArray.mk #[], false)))
 else (if a1 > 18 then (some ((ByteArray.mk #[], false)))
 else (if 0 ≤ a1 ∧ 1 * a1 ≤ 281474976710656 then (digits_Put.l0 n a0 (Int.toNat a1) (IntKind.wrap .i64 (a1 - 1)) (List.replicate (Int.toNat a1) 0))
 else none)))) := by kernel_rfl
def digits_Put.f (x : Int × Int) : Option (ByteArray × Bool) := if -9223372036854775808 ≤ x.1 ∧ x.1 ≤ 9223372036854775807 then some (putNum x.1 x.2) else none
theorem digits_Put (n w : Int) (h1 : -9223372036854775808 ≤ n) (h2 : n ≤ 9223372036854775807) : digits_Put.f (n, w) = some (putNum n w) := if_pos ⟨h1, h2⟩
theorem digits_Put_l (n w : Nat) (hn : n ≤ 9223372036854775807) (hw : w ≤ 18) : ∀ (d k j : Nat), j + d = w → d < k → digits_Put.l0 k ((n / 10 ^ j : Nat) : Int) w ((d : Int) - 1) (List.replicate d 0 ++ ints (digs j n)) = some (if n < 10 ^ w then (sb (digs w n), true) else (sb [], false))
 | 0, k, j, hj, hk => by
  obtain ⟨k, rfl⟩ : ∃ m, k = m + 1 := ⟨k - 1, by omega⟩
  obtain rfl : j = w := by omega
  rw [digits_Put.l0_eq, if_neg (by omega)]
  by_cases c : n < 10 ^ j
  ·have hl : (ints (digs j n)).length = j := by rw [ints_length, digs_length]
   rw [if_pos c, Nat.div_eq_of_lt c, if_neg (by simp), List.replicate_zero, List.nil_append]
   unfold lpart
   rw [if_pos (by omega), Option.bind_some, List.drop_zero, List.take_of_length_le (by omega), str_ints]
  ·have : ¬ n / 10 ^ j = 0 := fun e => c ((Nat.div_eq_zero_iff_lt (Nat.pow_pos (by decide))).1 e)
   rw [if_neg c, if_pos (show ((n / 10 ^ j : Nat) : Int) > 0 from Int.natCast_pos.2 (Nat.pos_of_ne_zero this))]; rfl
 | d + 1, k, j, hj, hk => by
  obtain ⟨k, rfl⟩ : ∃ m, k = m + 1 := ⟨k - 1, by omega⟩
  have ih := digits_Put_l n w hn hw d k (j + 1) (by omega) (by omega)
  have hq : n / 10 ^ j ≤ n := Nat.div_le_self ..
  have e1 : n / 10 ^ (j + 1) = n / 10 ^ j / 10 := by rw [Nat.pow_succ, Nat.div_div_eq_div_mul]
  have hl : (ints (digs j n)).length = j := by rw [ints_length, digs_length]
  rw [e1, digs_cons] at ih
  have hd : (((d + 1 : Nat) : Int) - 1) = (d : Int) := by omega
  generalize n / 10 ^ j = q at *
  have t1 : Int.tmod (q : Int) 10 = (((q % 10) % 10 : Nat) : Int) := by rw [Nat.mod_mod]; exact tmod_nat q 10
  have t2 : Int.tdiv (q : Int) 10 = ((q / 10 : Nat) : Int) := tdiv_nat q 10
  have t3 : IntKind.wrap .u8 (IntKind.wrap .i64 (48 + Int.tmod (q : Int) 10)) = ((48 + q % 10 : Nat) : Int) := by
   have := putB (n := q % 10) (Nat.mod_lt _ (by decide))
   rw [show Int.tmod ((q % 10 : Nat) : Int) 10 = (((q % 10) % 10 : Nat) : Int) from tmod_nat (q % 10) 10] at this
   rw [t1]; exact this
  have hs : lset (List.replicate (d + 1) 0 ++ ints (digs j n)) (0 + Int.toNat (d : Int)) ((48 + q % 10 : Nat) : Int) = some (List.replicate d 0 ++ ((48 + q % 10 : Nat) : Int) :: ints (digs j n)) := by
   unfold lset
   rw [Nat.zero_add, Int.toNat_natCast, if_pos (by rw [List.length_append, List.length_replicate]; omega), set_rep]
  rw [digits_Put.l0_eq, hd, if_pos (by omega), if_pos (by omega), t3, hs, Option.bind_some, t2, wrap_nat (by omega), wrap_id (by omega) (by omega)]
  have e2 : ints (u8 (48 + q % 10) :: digs j n) = ((48 + q % 10 : Nat) : Int) :: ints (digs j n) := by
   show ((u8 (48 + q % 10)).toNat : Int) :: _ = _
   rw [u8_toNat _ (by omega)]; rfl
  rw [e2] at ih
  exact ih
theorem digits_Put.run (n w : Int) (h1 : -9223372036854775808 ≤ n) (h2 : n ≤ 9223372036854775807) : call digits_Put.C Tryz.f122 digits_Put.code digits_Put.sg digits_Put.rs 19 (n, w) = some (putNum n w) := by
 rw [digits_Put.eq]
 unfold putNum
 by_cases c1 : n < 0
 ·rw [if_pos c1, if_pos (.inl c1)]; rfl
 rw [if_neg c1]
 by_cases c2 : w < 1
 ·rw [if_pos c2, if_pos (.inr (.inl c2))]; rfl
 rw [if_neg c2]
 by_cases c3 : w > 18
 ·rw [if_pos c3, if_pos (.inr (.inr (.inl c3)))]; rfl
 obtain ⟨a, rfl⟩ := Int.eq_ofNat_of_zero_le (show 0 ≤ n by omega)
 obtain ⟨b, rfl⟩ := Int.eq_ofNat_of_zero_le (show 0 ≤ w by omega)
 rw [if_neg c3, if_pos (by omega), Int.toNat_natCast, Int.toNat_natCast, wrap_id (by omega) (by omega)]
 have r := digits_Put_l a b (by omega) (by omega) b 19 0 (by omega) (by omega)
 rw [Nat.pow_zero, Nat.div_one, show ints (digs 0 a) = [] from rfl, List.append_nil] at r
 rw [r]
 congr 1
 by_cases c4 : a < 10 ^ b
 ·rw [if_pos c4, if_neg (fun q => q.elim (by omega) fun q => q.elim (by omega) fun q => q.elim (by omega) fun q => q c4)]
 ·rw [if_neg c4, if_pos (.inr (.inr (.inr c4)))]
noncomputable def digits_Put.c : Con := ⟨122, digits_Put.sg, digits_Put.rs, digits_Put.f⟩
theorem digits_Put.con : ConOk Tryz.prog digits_Put.c := walked (C := digits_Put.C) rfl (by kernel_rfl) (by kernel_rfl) (by kernel_rfl) rfl trivial fun (x : Int × Int) y h => by
 obtain ⟨n, w⟩ := x
 have h : digits_Put.f (n, w) = some y := h
 unfold digits_Put.f at h
 split at h
 ·rename_i hc
  exact ⟨19, (digits_Put.run n w hc.1 hc.2).trans h⟩
 ·cases h
@[reducible] def prefix_Put.sg : List Shp := [.v (.int .i64), .v (.int .i64), .v (.int .i64)]
@[reducible] def prefix_Put.rs : Rs := .tup [.v (.str), .v (.int .i64)]
@[reducible] noncomputable def prefix_Put.code : Code := Tryz.f87.body.getD .skip
noncomputable def prefix_Put.C : Ctx := ⟨tab, [bcd_Put.c, prefix_known.c, digits_Put.c, prefix_width.c], [], ⟨[], []⟩⟩
theorem prefix_Put.eq (n : Nat) (a0 a1 a2 : Int) : call prefix_Put.C Tryz.f87 prefix_Put.code prefix_Put.sg prefix_Put.rs n (a0, (a1, a2)) =
 ((prefix_known.f (a0, a1)).bind fun b0 =>
 (if ¬b0 = true then (some ((ByteArray.mk #[], 1)))
 else ((prefix_width.f a1).bind fun b1 =>
 ((digits_Put.f (a2, b1)).bind fun b2 =>
 (if ¬b2.2 = true then (some ((ByteArray.mk #[], 5)))
 else (if a0 = 2 then ((bcd_Put.f b2.1).bind fun b3 =>
 (some ((b3.1, 0))))
 else (some ((b2.1, 0))))))))) := by kernel_rfl
noncomputable def prefix_Put.f : El (sgTy prefix_Put.sg) → Option (El prefix_Put.rs.ty) := fun x => match x with
 | (a0, (a1, a2)) =>
 ((prefix_known.f (a0, a1)).bind fun b0 =>
 (if ¬b0 = true then (some ((ByteArray.mk #[], 1)))
 else ((prefix_width.f a1).bind fun b1 =>
  ((digits_Put.f (a2, b1)).bind fun b2 =>
  (if ¬Prod.snd b2 = true then (some ((ByteArray.mk #[], 5)))
  else (if a0 = 2 then ((bcd_Put.f (Prod.fst b2)).bind fun b3 =>
   (some ((Prod.fst b3, 0))))
  else (some ((Prod.fst b2, 0)))))))))
noncomputable def prefix_Put.c : Con := ⟨87, prefix_Put.sg, prefix_Put.rs, prefix_Put.f⟩
theorem prefix_Put.con : ConOk Tryz.prog prefix_Put.c := walked (C := prefix_Put.C) rfl (by kernel_rfl) (by kernel_rfl) (by kernel_rfl) rfl ⟨bcd_Put.con, prefix_known.con, digits_Put.con, prefix_width.con, trivial⟩ fun ⟨a0, ⟨a1, a2⟩⟩ y h => ⟨0, (prefix_Put.eq 0 a0 a1 a2).trans h⟩
theorem prefix_Put (s f n : Int) (h1 : -9223372036854775808 ≤ n) (h2 : n ≤ 9223372036854775807) : prefix_Put.f (s, f, n) = some (sb (prePut s f n).1, (prePut s f n).2) := by
 simp only [prefix_Put.f]
 rw [prefix_known, Option.bind_some]
 unfold prePut
 by_cases c : preOk s f = true
 ·have hf := (preOk_iff c).2
  have hw : prefix_width.f f = some f := by unfold prefix_width.f; rw [if_pos hf]
  rw [if_neg (not_not_intro c), if_pos c, hw, Option.bind_some, digits_Put n f h1 h2, Option.bind_some]
  by_cases c2 : (putNum n f).2 = true
  ·rw [if_neg (not_not_intro c2), if_pos c2]
   by_cases c3 : s = 2
   ·rw [if_pos c3, if_pos c3]
    have e := bcd_Put (bl (putNum n f).1)
    rw [sb_bl] at e
    rw [e, Option.bind_some]
   ·rw [if_neg c3, if_neg c3, sb_bl]
  ·rw [if_pos c2, if_neg c2]; rfl
 ·rw [if_pos c, if_neg c]; rfl
theorem hd256 : ∀ n : Fin 256, bget (ByteArray.mk #[48, 49, 50, 51, 52, 53, 54, 55, 56, 57, 65, 66, 67, 68, 69, 70]) (Int.fdiv ((n.val : Nat) : Int) (2 ^ 4)) = some (hexD (n.val / 16)) ∧ bget (ByteArray.mk #[48, 49, 50, 51, 52, 53, 54, 55, 56, 57, 65, 66, 67, 68, 69, 70]) (bits BinOp.and IntKind.u8 ((n.val : Nat) : Int) 15) = some (hexD (n.val % 16)) := by decide +kernel
@[reducible] def hexa_Put.sg : List Shp := [.v (.str)]
@[reducible] def hexa_Put.rs : Rs := .one (.v (.str))
@[reducible] noncomputable def hexa_Put.code : Code := Tryz.f85.body.getD .skip
noncomputable def hexa_Put.C : Ctx := ⟨tab, [], [], ⟨[(3, [0, 3, 4], 0)], []⟩⟩
noncomputable def hexa_Put.l0 (n : Nat) (v0 : ByteArray) (v1 : List Int) (v2 : Int) : Option ByteArray := run hexa_Put.C (finOf hexa_Put.C Tryz.f85 hexa_Put.rs) n (todoAt 3 hexa_Put.code) ⟨.str v0 :: zJ :: zJ :: .sl (some 0) (.int .u8) v1 :: .int .i64 v2 :: zJ :: zK (zK (zK [])), [], [true]⟩
theorem hexa_Put.l0_eq n v0 v1 v2 : hexa_Put.l0 (n + 1) v0 v1 v2 =
 (if v2 < (v0.size : Int) then ((bget v0 v2).bind fun b0 =>
 ((bget (ByteArray.mk #[48, 49, 50, 51, 52, 53, 54, 55, 56, 57, 65, 66, 67, 68, 69, 70]) (Int.fdiv (↑(UInt8.toNat b0) : Int) (2 ^ 4))).bind fun b1 =>
 ((bget v0 v2).bind fun b2 =>
 ((bget (ByteArray.mk #[48, 49, 50, 51, 52, 53, 54, 55, 56, 57, 65, 66, 67, 68, 69, 70]) (bits BinOp.and IntKind.u8 (↑(UInt8.toNat b2) : Int) 15)).bind fun b3 =>
 ((lcat 1 v1 [(↑(UInt8.toNat b1) : Int), (↑(UInt8.toNat b3) : Int)]).bind fun b4 =>
 (hexa_Put.l0 n v0 b4 (IntKind.wrap .i64 (v2 + 1))))))))
 else (some (bytesOf v1))) := by kernel_rfl
theorem hexa_Put.eq (n : Nat) (a0 : ByteArray) : call hexa_Put.C Tryz.f85 hexa_Put.code hexa_Put.sg hexa_Put.rs n a0 =
 (if (0 : Int) = 0 ∧ 0 ≤ IntKind.wrap .i64 (2 * (a0.size : Int)) ∧ 1 * IntKind.wrap .i64 (2 * (a0.size : Int)) ≤ 281474976710656 ∧ IntKind.wrap .i64 (2 * (a0.size : Int)) ≤ 9223372036854775807 then (hexa_Put.l0 n a0 [] 0)
 else none) := by kernel_rfl
def hexa_Put.f (s : ByteArray) : Option ByteArray := if s.size ≤ 35184372088832 then some (sb (hexPut (bl s))) else none
theorem hexa_Put_l (l : List UInt8) (hl : l.length ≤ 35184372088832) : ∀ (m o : List UInt8) (k i : Nat), i + m.length = l.length → l.drop i = m → o.length = 2 * i → m.length < k →
  hexa_Put.l0 k (sb l) (ints o) (i : Int) = some (sb (o ++ hexPut m))
 | [], o, k, i, hi, hd, ho, hk => by
  obtain ⟨k, rfl⟩ : ∃ m, k = m + 1 := ⟨k - 1, by omega⟩
  have hi' : i = l.length := by simpa using hi
  rw [hexa_Put.l0_eq, if_neg (by rw [size_sb]; omega), str_ints]; simp [hexPut]
 | a :: m, o, k, i, hi, hd, ho, hk => by
  obtain ⟨k, rfl⟩ : ∃ m, k = m + 1 := ⟨k - 1, by omega⟩
  have hi' : i + (m.length + 1) = l.length := by simpa using hi
  have hk' : m.length < k := by simp at hk; omega
  have b0 : (i : Int) < (l.length : Int) := by omega
  have hi2 : i + 1 + m.length = l.length := by omega
  have ho2 : o.length + 2 = 2 * (i + 1) := by omega
  obtain ⟨hlt, -, hd2⟩ := drop_cons hd
  obtain ⟨p1, p2⟩ := hd256 ⟨a.toNat, u8_lt a⟩
  have e : ints o ++ [((hexD (a.toNat / 16)).toNat : Int), ((hexD (a.toNat % 16)).toNat : Int)] = ints (o ++ [hexD (a.toNat / 16), hexD (a.toNat % 16)]) := by simp [ints]
  rw [hexa_Put.l0_eq, if_pos (by rw [size_sb]; exact b0), bget_drop hd, Option.bind_some, p1, Option.bind_some, Option.bind_some, p2, Option.bind_some, lcat_ok _ _ _ (by rw [ints_length]; simp only [List.length_cons, List.length_nil]; omega), Option.bind_some, wrap_succ (by omega), e, hexa_Put_l l hl m _ k (i + 1) hi2 hd2 (by rw [List.length_append]; exact ho2) hk', hexPut]
  simp
theorem hexa_Put (l : List UInt8) (hl : l.length ≤ 35184372088832) : hexa_Put.f (sb l) = some (sb (hexPut l)) := by
 unfold hexa_Put.f
 rw [if_pos (by rw [size_sb]; exact hl), bl_sb]
theorem hexa_Put.run (l : List UInt8) (hl : l.length ≤ 35184372088832) : call hexa_Put.C Tryz.f85 hexa_Put.code hexa_Put.sg hexa_Put.rs (l.length + 1) (sb l) = some (sb (hexPut l)) := by
 rw [hexa_Put.eq, size_sb, wrap_id (by omega) (by omega), if_pos ⟨rfl, by omega, by omega, by omega⟩]
 exact hexa_Put_l l hl l [] _ 0 (by simp) rfl rfl (by omega)
noncomputable def hexa_Put.c : Con := ⟨85, hexa_Put.sg, hexa_Put.rs, hexa_Put.f⟩
theorem hexa_Put.con : ConOk Tryz.prog hexa_Put.c := walked (C := hexa_Put.C) rfl (by kernel_rfl) (by kernel_rfl) (by kernel_rfl) rfl trivial fun s y h => by
 obtain ⟨l, rfl⟩ := ex_sb s
 have h : hexa_Put.f (sb l) = some y := h
 unfold hexa_Put.f at h
 split at h
 ·rename_i hc
  rw [size_sb] at hc
  exact ⟨_, (hexa_Put.run l hc).trans h⟩
 ·cases h
@[reducible] def hexa_Digit.sg : List Shp := [.v (.int .u8)]
@[reducible] def hexa_Digit.rs : Rs := .tup [.v (.int .i64), .v (.bool)]
@[reducible] noncomputable def hexa_Digit.code : Code := Tryz.f131.body.getD .skip
noncomputable def hexa_Digit.C : Ctx := ⟨tab, [], [], ⟨[], []⟩⟩
theorem hexa_Digit.eq (n : Nat) (a0 : Int) : call hexa_Digit.C Tryz.f131 hexa_Digit.code hexa_Digit.sg hexa_Digit.rs n a0 =
 (if a0 ≥ 48 then (if a0 ≤ 57 then (some ((IntKind.wrap .i64 (IntKind.wrap .u8 (a0 - 48)), true)))
 else (if a0 ≥ 65 then (if a0 ≤ 70 then (some ((IntKind.wrap .i64 (IntKind.wrap .i64 (IntKind.wrap .u8 (a0 - 65)) + 10), true)))
 else (some ((0, false))))
 else (some ((0, false)))))
 else (if a0 ≥ 65 then (if a0 ≤ 70 then (some ((IntKind.wrap .i64 (IntKind.wrap .i64 (IntKind.wrap .u8 (a0 - 65)) + 10), true)))
 else (some ((0, false))))
 else (some ((0, false))))) := by kernel_rfl
noncomputable def hexa_Digit.f : El (sgTy hexa_Digit.sg) → Option (El hexa_Digit.rs.ty) := fun x => match x with
 | a0 =>
 (if a0 ≥ 48 then (if a0 ≤ 57 then (some ((IntKind.wrap IntKind.i64 (IntKind.wrap IntKind.u8 (a0 - 48)), true)))
  else (if a0 ≥ 65 then (if a0 ≤ 70 then (some ((IntKind.wrap IntKind.i64 (IntKind.wrap IntKind.i64 (IntKind.wrap IntKind.u8 (a0 - 65)) + 10), true)))
   else (some ((0, false))))
  else (some ((0, false)))))
 else (if a0 ≥ 65 then (if a0 ≤ 70 then (some ((IntKind.wrap IntKind.i64 (IntKind.wrap IntKind.i64 (IntKind.wrap IntKind.u8 (a0 - 65)) + 10), true)))
  else (some ((0, false))))
  else (some ((0, false)))))
noncomputable def hexa_Digit.c : Con := ⟨131, hexa_Digit.sg, hexa_Digit.rs, hexa_Digit.f⟩
theorem hexa_Digit.con : ConOk Tryz.prog hexa_Digit.c := walked (C := hexa_Digit.C) rfl (by kernel_rfl) (by kernel_rfl) (by kernel_rfl) rfl trivial fun a0 y h => ⟨0, (hexa_Digit.eq 0 a0).trans h⟩
theorem hexa_Digit256 : ∀ n : Fin 256, hexa_Digit.f ((n.val : Nat) : Int) = some (hexP (u8 n.val)) := by decide +kernel
theorem hexa_Digit (x : UInt8) : hexa_Digit.f (x.toNat : Int) = some (hexP x) := by
 have := hexa_Digit256 ⟨x.toNat, u8_lt x⟩
 simp only [u8_of_nat] at this
 exact this
theorem orw256 : ∀ a b : Fin 16, IntKind.wrap IntKind.u8 (bits BinOp.or IntKind.i64 (IntKind.wrap IntKind.i64 (((a.val : Nat) : Int) * 2 ^ 4)) ((b.val : Nat) : Int)) = ((16 * a.val + b.val : Nat) : Int) := by decide +kernel
@[reducible] def hexa_Get.sg : List Shp := [.v (.str)]
@[reducible] def hexa_Get.rs : Rs := .tup [.v (.str), .v (.int .i64), .v (.bool)]
@[reducible] noncomputable def hexa_Get.code : Code := Tryz.f95.body.getD .skip
noncomputable def hexa_Get.C : Ctx := ⟨tab, [hexa_Digit.c], [], ⟨[(4, [0, 5, 6, 7], 0)], []⟩⟩
noncomputable def hexa_Get.l0 (n : Nat) (v0 : ByteArray) (v1 : List Int) (v2 v3 : Int) : Option ((ByteArray × (Int × Bool))) := run hexa_Get.C (finOf hexa_Get.C Tryz.f95 hexa_Get.rs) n (todoAt 4 hexa_Get.code) ⟨.str v0 :: zJ :: zJ :: zJ :: zJ :: .sl (some 0) (.int .u8) v1 :: .int .i64 v2 :: .int .i64 v3 :: zJ :: zJ :: zJ :: zJ :: zK (zK (zK (zK (zK [])))), [], [true]⟩
theorem hexa_Get.l0_eq n v0 v1 v2 v3 : hexa_Get.l0 (n + 1) v0 v1 v2 v3 =
 (if v3 < (v0.size : Int) then ((bget v0 v3).bind fun b0 =>
 ((hexa_Digit.f (↑(UInt8.toNat b0) : Int)).bind fun b1 =>
 (if ¬b1.2 = true then (some ((ByteArray.mk #[], v3, false)))
 else (if Int.tmod v3 2 = 0 then (hexa_Get.l0 n v0 v1 b1.1 (IntKind.wrap .i64 (v3 + 1)))
 else ((lcat 1 v1 [IntKind.wrap .u8 (bits BinOp.or IntKind.i64 (IntKind.wrap .i64 (v2 * 2 ^ 4)) b1.1)]).bind fun b2 =>
 (hexa_Get.l0 n v0 b2 v2 (IntKind.wrap .i64 (v3 + 1))))))))
 else (if ¬Int.tmod (v0.size : Int) 2 = 0 then (some ((ByteArray.mk #[], (v0.size : Int), false)))
 else (some ((bytesOf v1, 0, true))))) := by kernel_rfl
theorem hexa_Get.eq (n : Nat) (a0 : ByteArray) : call hexa_Get.C Tryz.f95 hexa_Get.code hexa_Get.sg hexa_Get.rs n a0 =
 (if (0 : Int) = 0 ∧ 0 ≤ IntKind.wrap .i64 (Int.tdiv (a0.size : Int) 2) ∧ 1 * IntKind.wrap .i64 (Int.tdiv (a0.size : Int) 2) ≤ 281474976710656 ∧ IntKind.wrap .i64 (Int.tdiv (a0.size : Int) 2) ≤ 9223372036854775807 then (hexa_Get.l0 n a0 [] 0 0)
 else none) := by kernel_rfl
def hexa_Get.f (s : ByteArray) : Option (ByteArray × Int × Bool) := if s.size ≤ 140737488351232 then some (sb (hexGet (bl s)).1, (hexGet (bl s)).2.1, (hexGet (bl s)).2.2) else none
theorem hexa_Get (l : List UInt8) (hl : l.length ≤ 140737488351232) : hexa_Get.f (sb l) = some (sb (hexGet l).1, (hexGet l).2.1, (hexGet l).2.2) := by
 unfold hexa_Get.f
 rw [if_pos (by rw [size_sb]; exact hl), bl_sb]
theorem hexa_Get_l (l : List UInt8) (hl : l.length ≤ 140737488351232) : ∀ (m o : List UInt8) (h : Int) (k i : Nat), i + m.length = l.length → i % 2 = 0 → l.drop i = m → 2 * o.length ≤ i → m.length + 2 < k →
  hexa_Get.l0 k (sb l) (ints o) h (i : Int) = some (sb (hexFrom i o m).1, (hexFrom i o m).2.1, (hexFrom i o m).2.2)
 | [], o, h, k, i, hi, h2, hd, ho, hk => by
  obtain ⟨k, rfl⟩ : ∃ m, k = m + 1 := ⟨k - 1, by omega⟩
  have hi' : i = l.length := by simpa using hi
  have t : Int.tmod (l.length : Int) 2 = ((l.length % 2 : Nat) : Int) := tmod_nat l.length 2
  rw [hexa_Get.l0_eq, size_sb, if_neg (by omega), t, if_neg (by omega), str_ints]; rfl
 | [a], o, h, k, i, hi, h2, hd, ho, hk => by
  obtain ⟨k, rfl⟩ : ∃ m, k = m + 2 := ⟨k - 2, by simp at hk; omega⟩
  have hi' : i + 1 = l.length := by simpa using hi
  have t0 : Int.tmod (i : Int) 2 = 0 := (tmod_nat i 2).trans (by rw [h2]; rfl)
  have t : Int.tmod (l.length : Int) 2 = ((l.length % 2 : Nat) : Int) := tmod_nat l.length 2
  rw [show k + 2 = k + 1 + 1 from rfl, hexa_Get.l0_eq, size_sb, if_pos (by omega), bget_drop hd, Option.bind_some, hexa_Digit a, Option.bind_some, hexFrom]
  by_cases hx : hexOk a = true
  ·rw [hexP_pos hx, if_pos hx]
   dsimp only
   rw [if_neg (by decide), if_pos t0, wrap_succ (by omega), hexa_Get.l0_eq, size_sb, if_neg (by omega), t, if_pos (by omega), ← hi']; rfl
  ·rw [hexP_neg hx, if_neg hx]; rfl
 | a :: b :: m, o, h, k, i, hi, h2, hd, ho, hk => by
  obtain ⟨k, rfl⟩ : ∃ m, k = m + 2 := ⟨k - 2, by simp at hk; omega⟩
  have hi' : i + (m.length + 2) = l.length := by simpa using hi
  have hk' : m.length + 2 < k := by simp at hk; omega
  have hm1 : (i + 1) % 2 = 1 := by omega
  have hm2 : (i + 2) % 2 = 0 := by omega
  obtain ⟨-, -, hd1⟩ := drop_cons hd
  obtain ⟨-, -, hd2⟩ := drop_cons hd1
  have t0 : Int.tmod (i : Int) 2 = 0 := (tmod_nat i 2).trans (by rw [h2]; rfl)
  have t1 : Int.tmod ((i + 1 : Nat) : Int) 2 = 1 := (tmod_nat (i + 1) 2).trans (by rw [hm1]; rfl)
  rw [hexFrom, show k + 2 = k + 1 + 1 from rfl, hexa_Get.l0_eq, size_sb, if_pos (by omega), bget_drop hd, Option.bind_some, hexa_Digit a, Option.bind_some]
  by_cases hx : hexOk a = true
  ·rw [hexP_pos hx, if_pos hx]
   dsimp only
   rw [if_neg (by decide), if_pos t0, wrap_succ (by omega), hexa_Get.l0_eq, size_sb, if_pos (by omega), bget_drop hd1, Option.bind_some, hexa_Digit b, Option.bind_some]
   by_cases hy : hexOk b = true
   ·rw [hexP_pos hy, if_pos hy]
    have h1 := hexV_lt hx
    have h3 := hexV_lt hy
    have hv : 16 * hexV a + hexV b < 256 := by omega
    have e := orw256 ⟨hexV a, h1⟩ ⟨hexV b, h3⟩
    simp only at e
    dsimp only
    rw [if_neg (by decide), t1, if_neg (by decide), e, lcat_ok _ _ _ (by rw [ints_length]; simp only [List.length_cons, List.length_nil]; omega), Option.bind_some, ints_snoc o _ hv, wrap_succ (by omega)]
    exact hexa_Get_l l hl m _ _ k (i + 2) (by omega) hm2 hd2 (by rw [List.length_append]; simp only [List.length_cons, List.length_nil]; omega) hk'
   ·rw [hexP_neg hy, if_neg hy]; rfl
  ·rw [hexP_neg hx, if_neg hx]; rfl
theorem hexa_Get.run (l : List UInt8) (hl : l.length ≤ 140737488351232) : call hexa_Get.C Tryz.f95 hexa_Get.code hexa_Get.sg hexa_Get.rs (l.length + 3) (sb l) = some (sb (hexGet l).1, (hexGet l).2.1, (hexGet l).2.2) := by
 have t : Int.tdiv (l.length : Int) 2 = ((l.length / 2 : Nat) : Int) := tdiv_nat l.length 2
 rw [hexa_Get.eq, size_sb, t, wrap_nat (by omega), if_pos ⟨rfl, by omega, by omega, by omega⟩]
 exact hexa_Get_l l hl l [] 0 _ 0 (by simp) rfl rfl (Nat.le_refl _) (by omega)
noncomputable def hexa_Get.c : Con := ⟨95, hexa_Get.sg, hexa_Get.rs, hexa_Get.f⟩
theorem hexa_Get.con : ConOk Tryz.prog hexa_Get.c := walked (C := hexa_Get.C) rfl (by kernel_rfl) (by kernel_rfl) (by kernel_rfl) rfl ⟨hexa_Digit.con, trivial⟩ fun s y h => by
 obtain ⟨l, rfl⟩ := ex_sb s
 have h : hexa_Get.f (sb l) = some y := h
 unfold hexa_Get.f at h
 split at h
 ·rename_i hc
  rw [size_sb] at hc
  exact ⟨_, (hexa_Get.run l hc).trans h⟩
 ·cases h
theorem hexa_Put' (l : List UInt8) (hl : l.length ≤ 999) : hexa_Put.f (sb l) = some (sb (hexPut l)) := hexa_Put l (by omega)
noncomputable def cellTailP (st c : Int) (h x : ByteArray) : Option (ByteArray × Int) := (cell_how.f (st, c)).bind fun b3 =>
 if b3 = 1 then (bcd_Put.f x).bind fun b4 => (scat h (Prod.fst b4)).bind fun b5 => some (b5, 0)
 else if b3 = 2 then (hexa_Put.f x).bind fun b6 => (scat h b6).bind fun b7 => some (b7, 0)
 else (scat h x).bind fun b8 => some (b8, 0)
theorem cellTailP_eq (st c : Int) (h l : List UInt8) (hh : h.length ≤ 1000) (hl : l.length ≤ 999) : cellTailP st c (sb h) (sb l) = some (sb (h ++ cellBody (cellHow st c) l), 0) := by
 have hb := body_length st c l hl
 unfold cellTailP
 rw [show cell_how.f (st, c) = some (cellHow st c) from cell_how st c, Option.bind_some]
 unfold cellBody at hb ⊢
 by_cases c1 : cellHow st c = 1
 ·rw [if_pos c1] at hb ⊢
  rw [if_pos c1, bcd_Put, Option.bind_some, scat_sb _ _ (by omega)]; rfl
 ·rw [if_neg c1] at hb ⊢
  rw [if_neg c1]
  by_cases c2 : cellHow st c = 2
  ·rw [if_pos c2] at hb ⊢
   rw [if_pos c2, hexa_Put' l hl, Option.bind_some, scat_sb _ _ (by omega)]; rfl
  ·rw [if_neg c2, if_neg c2, scat_sb _ _ (by omega)]; rfl
@[reducible] def cell_Put.sg : List Shp := [.v (.int .i64), .a zd5, .v (.str)]
@[reducible] def cell_Put.rs : Rs := .tup [.v (.str), .v (.int .i64)]
@[reducible] noncomputable def cell_Put.code : Code := Tryz.f41.body.getD .skip
noncomputable def cell_Put.C : Ctx := ⟨tab, [bcd_Put.c, cell_known.c, spec_Value.c, prefix_Put.c, cell_how.c, hexa_Put.c], [], ⟨[], []⟩⟩
theorem cell_Put.eq (n : Nat) (a0 a1 a2 a3 a4 a5 : Int) (a6 : ByteArray) : call cell_Put.C Tryz.f41 cell_Put.code cell_Put.sg cell_Put.rs n (a0, ((a1, (a2, (a3, (a4, a5)))), a6)) =
 ((cell_known.f a0).bind fun b0 =>
 (if ¬b0 = true then (some ((ByteArray.mk #[], 1)))
 else ((spec_Value.f ((a1, a2, a3, a4, a5), a6)).bind fun b1 =>
 (if ¬b1 = 0 then (some ((ByteArray.mk #[], b1)))
 else (if ¬a3 = 1 then ((prefix_Put.f (a0, a3, (a6.size : Int))).bind fun b2 =>
 ((cell_how.f (a0, a2)).bind fun b3 =>
 (if b3 = 1 then ((bcd_Put.f a6).bind fun b4 =>
 ((scat b2.1 b4.1).bind fun b5 =>
 (some ((b5, 0)))))
 else (if b3 = 2 then ((hexa_Put.f a6).bind fun b6 =>
 ((scat b2.1 b6).bind fun b7 =>
 (some ((b7, 0)))))
 else ((scat b2.1 a6).bind fun b8 =>
 (some ((b8, 0))))))))
 else ((cell_how.f (a0, a2)).bind fun b9 =>
 (if b9 = 1 then ((bcd_Put.f a6).bind fun b10 =>
 ((scat (ByteArray.mk #[]) b10.1).bind fun b11 =>
 (some ((b11, 0)))))
 else (if b9 = 2 then ((hexa_Put.f a6).bind fun b12 =>
 ((scat (ByteArray.mk #[]) b12).bind fun b13 =>
 (some ((b13, 0)))))
 else ((scat (ByteArray.mk #[]) a6).bind fun b14 =>
 (some ((b14, 0)))))))))))) := by kernel_rfl
noncomputable def cell_Put.f : El (sgTy cell_Put.sg) → Option (El cell_Put.rs.ty) := fun x => match x with
 | (a0, ((a1, (a2, (a3, (a4, a5)))), a6)) =>
 ((cell_known.f a0).bind fun b0 =>
 (if ¬b0 = true then (some ((ByteArray.mk #[], 1)))
 else ((spec_Value.f ((a1, a2, a3, a4, a5), a6)).bind fun b1 =>
  (if ¬b1 = 0 then (some ((ByteArray.mk #[], b1)))
  else (if ¬a3 = 1 then ((prefix_Put.f (a0, a3, (↑(ByteArray.size a6) : Int))).bind fun b2 =>
   ((cell_how.f (a0, a2)).bind fun b3 =>
   (if b3 = 1 then ((bcd_Put.f a6).bind fun b4 =>
   ((scat (Prod.fst b2) (Prod.fst b4)).bind fun b5 =>
   (some ((b5, 0)))))
   else (if b3 = 2 then ((hexa_Put.f a6).bind fun b6 =>
    ((scat (Prod.fst b2) b6).bind fun b7 =>
    (some ((b7, 0)))))
   else ((scat (Prod.fst b2) a6).bind fun b8 =>
    (some ((b8, 0))))))))
  else ((cell_how.f (a0, a2)).bind fun b9 =>
   (if b9 = 1 then ((bcd_Put.f a6).bind fun b10 =>
   ((scat (ByteArray.mk #[]) (Prod.fst b10)).bind fun b11 =>
   (some ((b11, 0)))))
   else (if b9 = 2 then ((hexa_Put.f a6).bind fun b12 =>
    ((scat (ByteArray.mk #[]) b12).bind fun b13 =>
    (some ((b13, 0)))))
   else ((scat (ByteArray.mk #[]) a6).bind fun b14 =>
    (some ((b14, 0))))))))))))
noncomputable def cell_Put.c : Con := ⟨41, cell_Put.sg, cell_Put.rs, cell_Put.f⟩
theorem cell_Put.con : ConOk Tryz.prog cell_Put.c := walked (C := cell_Put.C) rfl (by kernel_rfl) (by kernel_rfl) (by kernel_rfl) rfl ⟨bcd_Put.con, cell_known.con, spec_Value.con, prefix_Put.con, cell_how.con, hexa_Put.con, trivial⟩ fun ⟨a0, ⟨⟨a1, ⟨a2, ⟨a3, ⟨a4, a5⟩⟩⟩⟩, a6⟩⟩ y h => ⟨0, (cell_Put.eq 0 a0 a1 a2 a3 a4 a5 a6).trans h⟩
theorem cell_Put (st no c fo mi ma : Int) (l : List UInt8) (hl : l.length ≤ 1000000000000) : cell_Put.f (st, (no, c, fo, mi, ma), sb l) = some (sb (cellPut st no c fo mi ma l).1, (cellPut st no c fo mi ma l).2) := by
 simp only [cell_Put.f]
 rw [cell_known, Option.bind_some, spec_Value no c fo mi ma l hl, Option.bind_some]
 unfold cellPut
 by_cases k1 : st = 1 ∨ st = 2
 ·rw [decide_eq_true k1, if_neg (not_not_intro rfl), if_neg (not_not_intro k1)]
  by_cases k2 : specV no c fo mi ma l = 0
  ·have h9 := specV_len k2
   have hf := (specE_zero (specV_zero k2).1).2.2.1
   have hh := head_length st fo l.length hf
   rw [if_neg (not_not_intro k2), if_neg (not_not_intro k2), size_sb]
   unfold cellHead at hh ⊢
   by_cases k3 : fo = 1
   ·rw [if_neg (not_not_intro k3), if_pos k3]
    exact cellTailP_eq st c [] l (by simp) h9
   ·rw [if_neg k3] at hh
    rw [if_pos k3, if_neg k3, prefix_Put st fo (l.length : Int) (by omega) (by omega), Option.bind_some]
    exact cellTailP_eq st c _ l hh h9
  ·rw [if_pos k2, if_pos k2]; rfl
 ·rw [decide_eq_false k1, if_pos (by simp), if_pos k1]; rfl
def t8 (l : List UInt8) : Int × Int × Int × Int × Int × Int × Int × Int :=
 (((l.getD 0 0).toNat : Int), ((l.getD 1 0).toNat : Int), ((l.getD 2 0).toNat : Int), ((l.getD 3 0).toNat : Int), ((l.getD 4 0).toNat : Int), ((l.getD 5 0).toNat : Int), ((l.getD 6 0).toNat : Int), ((l.getD 7 0).toNat : Int))
def l8 (x : Int × Int × Int × Int × Int × Int × Int × Int) : List UInt8 := [u8 x.1.toNat, u8 x.2.1.toNat, u8 x.2.2.1.toNat, u8 x.2.2.2.1.toNat, u8 x.2.2.2.2.1.toNat, u8 x.2.2.2.2.2.1.toNat, u8 x.2.2.2.2.2.2.1.toNat, u8 x.2.2.2.2.2.2.2.toNat]
def d8 (x : Int × Int × Int × Int × Int × Int × Int × Int) : Bool := decide ((0 ≤ x.1 ∧ x.1 < 256) ∧ (0 ≤ x.2.1 ∧ x.2.1 < 256) ∧ (0 ≤ x.2.2.1 ∧ x.2.2.1 < 256) ∧ (0 ≤ x.2.2.2.1 ∧ x.2.2.2.1 < 256) ∧ (0 ≤ x.2.2.2.2.1 ∧ x.2.2.2.2.1 < 256) ∧ (0 ≤ x.2.2.2.2.2.1 ∧ x.2.2.2.2.2.1 < 256) ∧ (0 ≤ x.2.2.2.2.2.2.1 ∧ x.2.2.2.2.2.2.1 < 256) ∧ (0 ≤ x.2.2.2.2.2.2.2 ∧ x.2.2.2.2.2.2.2 < 256))
theorem byte_in (a : UInt8) : 0 ≤ (a.toNat : Int) ∧ (a.toNat : Int) < 256 := by have := u8_lt a; omega
theorem d8_t8 (l : List UInt8) : d8 (t8 l) = true := decide_eq_true ⟨byte_in _, byte_in _, byte_in _, byte_in _, byte_in _, byte_in _, byte_in _, byte_in _⟩
theorem l8_t8 {l : List UInt8} (h : l.length = 8) : l8 (t8 l) = l := by
 obtain ⟨a, b, c, d, e, f, g, i, rfl⟩ := eight h
 simp [l8, t8, u8_of_nat]
theorem t8_l8 {x : Int × Int × Int × Int × Int × Int × Int × Int} (h : d8 x = true) : t8 (l8 x) = x := by
 obtain ⟨a, b, c, d, e, f, g, i⟩ := x
 have := of_decide_eq_true h
 dsimp only at this
 obtain ⟨ha, hb, hc, hd, he, hf, hg, hi⟩ := this
 have k : ∀ n : Int, 0 ≤ n ∧ n < 256 → ((u8 n.toNat).toNat : Int) = n := fun n hn => by rw [u8_toNat _ (by omega)]; omega
 simp only [t8, l8, List.getD_cons_zero, List.getD_cons_succ]
 rw [k a ha, k b hb, k c hc, k d hd, k e he, k f hf, k g hg, k i hi]
theorem t8_zero {l : List UInt8} (h : l.length = 8) : ((t8 l).1 = 0 ∧ (t8 l).2.1 = 0 ∧ (t8 l).2.2.1 = 0 ∧ (t8 l).2.2.2.1 = 0 ∧ (t8 l).2.2.2.2.1 = 0 ∧ (t8 l).2.2.2.2.2.1 = 0 ∧ (t8 l).2.2.2.2.2.2.1 = 0 ∧ (t8 l).2.2.2.2.2.2.2 = 0 ∧ True) ↔ nat8 l = 0 := by
 obtain ⟨a, b, c, d, e, f, g, i, rfl⟩ := eight h
 simp only [t8, nat8, List.getD_cons_zero, List.getD_cons_succ, List.foldl_cons, List.foldl_nil]
 constructor
 ·rintro ⟨h1, h2, h3, h4, h5, h6, h7, h8, -⟩; omega
 ·intro h
  exact ⟨by omega, by omega, by omega, by omega, by omega, by omega, by omega, by omega, trivial⟩
theorem t8_str {l : List UInt8} (h : l.length = 8) : bytesOf [(t8 l).1, (t8 l).2.1, (t8 l).2.2.1, (t8 l).2.2.2.1, (t8 l).2.2.2.2.1, (t8 l).2.2.2.2.2.1, (t8 l).2.2.2.2.2.2.1, (t8 l).2.2.2.2.2.2.2] = sb l := by
 obtain ⟨a, b, c, d, e, f, g, i, rfl⟩ := eight h
 rw [bytesOf_sb]
 simp [t8, u8_of_nat]
theorem t8_copy (l : List UInt8) : (scopy (sb l) 0 0, scopy (sb l) 1 0, scopy (sb l) 2 0, scopy (sb l) 3 0, scopy (sb l) 4 0, scopy (sb l) 5 0, scopy (sb l) 6 0, scopy (sb l) 7 0) = t8 l := by
 have k : ∀ i, scopy (sb l) i 0 = ((l.getD i 0).toNat : Int) := by
  intro i
  unfold scopy
  rw [size_sb]
  split
  ·simp [sb]
  ·rename_i h
   rw [List.getD_eq_getElem?_getD, List.getElem?_eq_none (by omega)]; rfl
 rw [k, k, k, k, k, k, k, k]; rfl
@[reducible] def bitmap_known.sg : List Shp := [.v (.int .i64)]
@[reducible] def bitmap_known.rs : Rs := .one (.v (.bool))
@[reducible] noncomputable def bitmap_known.code : Code := Tryz.f50.body.getD .skip
noncomputable def bitmap_known.C : Ctx := ⟨tab, [], [], ⟨[], []⟩⟩
theorem bitmap_known.eq (n : Nat) (a0 : Int) : call bitmap_known.C Tryz.f50 bitmap_known.code bitmap_known.sg bitmap_known.rs n a0 =
 (if a0 = 1 then (some true)
 else (some (decide (a0 = 2)))) := by kernel_rfl
noncomputable def bitmap_known.f : El (sgTy bitmap_known.sg) → Option (El bitmap_known.rs.ty) := fun x => match x with
 | a0 =>
 (if a0 = 1 then (some true)
 else (some (decide (a0 = 2))))
noncomputable def bitmap_known.c : Con := ⟨50, bitmap_known.sg, bitmap_known.rs, bitmap_known.f⟩
theorem bitmap_known.con : ConOk Tryz.prog bitmap_known.c := walked (C := bitmap_known.C) rfl (by kernel_rfl) (by kernel_rfl) (by kernel_rfl) rfl trivial fun a0 y h => ⟨0, (bitmap_known.eq 0 a0).trans h⟩
theorem bitmap_known (s : Int) : bitmap_known.f s = some (decide (s = 1 ∨ s = 2)) := by
 simp only [bitmap_known.f]
 by_cases h : s = 1 <;> simp [h]
@[reducible] def bitmap_bytes.sg : List Shp := [.v (.int .u64)]
@[reducible] def bitmap_bytes.rs : Rs := .one (.a (.pair (.int .u8) (.pair (.int .u8) (.pair (.int .u8) (.pair (.int .u8) (.pair (.int .u8) (.pair (.int .u8) (.pair (.int .u8) (.int .u8)))))))))
@[reducible] noncomputable def bitmap_bytes.code : Code := Tryz.f84.body.getD .skip
noncomputable def bitmap_bytes.C : Ctx := ⟨tab, [], [], ⟨[(3, [0, 2, 3, 5], 2)], []⟩⟩
def bitmap_bytes.f (x : Int) : Option (Int × Int × Int × Int × Int × Int × Int × Int) := if 0 ≤ x ∧ x < 18446744073709551616 then some (t8 (be8 x.toNat)) else none
theorem bitmap_bytes (x : Nat) (h : x < 18446744073709551616) : bitmap_bytes.f (x : Int) = some (t8 (be8 x)) := by
 unfold bitmap_bytes.f; rw [if_pos (by omega)]; rfl
theorem bitmap_bytes.run (a : Int) : call bitmap_bytes.C Tryz.f84 bitmap_bytes.code bitmap_bytes.sg bitmap_bytes.rs 9 a = some (IntKind.wrap .u8 (Int.fdiv a (2 ^ 56)), IntKind.wrap .u8 (Int.fdiv a (2 ^ 48)), IntKind.wrap .u8 (Int.fdiv a (2 ^ 40)), IntKind.wrap .u8 (Int.fdiv a (2 ^ 32)), IntKind.wrap .u8 (Int.fdiv a (2 ^ 24)), IntKind.wrap .u8 (Int.fdiv a (2 ^ 16)), IntKind.wrap .u8 (Int.fdiv a (2 ^ 8)), IntKind.wrap .u8 (Int.fdiv a (2 ^ 0))) := by kernel_rfl
theorem wrap_u8' (n : Int) : IntKind.wrap .u8 n = n % 256 := by
 show (if (false && decide (n % 256 ≥ 128)) = true then n % 256 - 256 else n % 256) = _
 simp only [Bool.false_and, Bool.false_eq_true, if_false]
theorem byte_at (x k : Nat) : IntKind.wrap .u8 (Int.fdiv (x : Int) (2 ^ k)) = (((u8 (x / 2 ^ k % 256)).toNat : Nat) : Int) := by
 rw [show ((2 : Int) ^ k) = ((2 ^ k : Nat) : Int) by simp, wrap_u8', Int.fdiv_eq_ediv_of_nonneg _ (Int.natCast_nonneg _), u8_toNat _ (Nat.mod_lt _ (by decide))]; rfl
noncomputable def bitmap_bytes.c : Con := ⟨84, bitmap_bytes.sg, bitmap_bytes.rs, bitmap_bytes.f⟩
theorem bitmap_bytes.con : ConOk Tryz.prog bitmap_bytes.c := walked (C := bitmap_bytes.C) rfl (by kernel_rfl) (by kernel_rfl) (by kernel_rfl) rfl trivial fun x y h => by
 have h : bitmap_bytes.f x = some y := h
 unfold bitmap_bytes.f at h
 split at h
 ·rename_i hc
  obtain ⟨n, rfl⟩ := Int.eq_ofNat_of_zero_le hc.1
  refine ⟨9, ?_⟩
  refine (bitmap_bytes.run _).trans (Eq.trans ?_ h)
  refine congrArg some ?_
  rw [byte_at, byte_at, byte_at, byte_at, byte_at, byte_at, byte_at, byte_at]
  simp only [show (2 : Nat) ^ 56 = 72057594037927936 from rfl, show (2 : Nat) ^ 48 = 281474976710656 from rfl, show (2 : Nat) ^ 40 = 1099511627776 from rfl, show (2 : Nat) ^ 32 = 4294967296 from rfl, show (2 : Nat) ^ 24 = 16777216 from rfl, show (2 : Nat) ^ 16 = 65536 from rfl, show (2 : Nat) ^ 8 = 256 from rfl, show (2 : Nat) ^ 0 = 1 from rfl, Nat.div_one]
  rfl
 ·cases h
@[reducible] def bitmap_bits.sg : List Shp := [.a (.pair (.int .u8) (.pair (.int .u8) (.pair (.int .u8) (.pair (.int .u8) (.pair (.int .u8) (.pair (.int .u8) (.pair (.int .u8) (.int .u8))))))))]
@[reducible] def bitmap_bits.rs : Rs := .one (.v (.int .u64))
@[reducible] noncomputable def bitmap_bits.code : Code := Tryz.f52.body.getD .skip
noncomputable def bitmap_bits.C : Ctx := ⟨tab, [], [], ⟨[(3, [3, 6, 7], 1)], []⟩⟩
def bitmap_bits.f (x : Int × Int × Int × Int × Int × Int × Int × Int) : Option Int := if d8 x = true then some ((nat8 (l8 x) : Nat) : Int) else none
theorem bitmap_bits (l : List UInt8) (h : l.length = 8) : bitmap_bits.f (t8 l) = some ((nat8 l : Nat) : Int) := by
 unfold bitmap_bits.f; rw [if_pos (d8_t8 l), l8_t8 h]
def orS (p a : Int) : Int := Go.bits BinOp.or IntKind.u64 (IntKind.wrap IntKind.u64 (p * 2 ^ 8)) (IntKind.wrap IntKind.u64 a)
theorem bitmap_bits.run (a b c d e f g i : Int) : call bitmap_bits.C Tryz.f52 bitmap_bits.code bitmap_bits.sg bitmap_bits.rs 9 (a, b, c, d, e, f, g, i) = some (orS (orS (orS (orS (orS (orS (orS (orS 0 a) b) c) d) e) f) g) i) := by kernel_rfl
theorem orS_nat (p : Nat) (a : UInt8) (h : p < 72057594037927936) : orS (p : Int) (a.toNat : Int) = ((256 * p + a.toNat : Nat) : Int) := by
 have := u8_lt a
 unfold orS
 have e1 : IntKind.wrap .u64 ((p : Int) * 2 ^ 8) = ((256 * p : Nat) : Int) := by rw [IntKind.wrap_u64]; omega
 have e2 : IntKind.wrap .u64 (a.toNat : Int) = ((a.toNat : Nat) : Int) := by rw [IntKind.wrap_u64]; omega
 rw [e1, e2, bits_or_u64_nat _ _ (by omega) (by omega)]
 have := Nat.two_pow_add_eq_or_of_lt (i := 8) (b := a.toNat) (by omega) p
 rw [show (2 : Nat) ^ 8 = 256 from rfl] at this
 rw [this]
noncomputable def bitmap_bits.c : Con := ⟨52, bitmap_bits.sg, bitmap_bits.rs, bitmap_bits.f⟩
theorem bitmap_bits.con : ConOk Tryz.prog bitmap_bits.c := walked (C := bitmap_bits.C) rfl (by kernel_rfl) (by kernel_rfl) (by kernel_rfl) rfl trivial fun x y h => by
 have h : bitmap_bits.f x = some y := h
 unfold bitmap_bits.f at h
 split at h
 ·rename_i hc
  refine ⟨9, ?_⟩
  rw [← h, ← t8_l8 hc, l8_t8 (by rfl)]
  obtain ⟨a, b, c, d, e, f, g, i, hl⟩ := eight (l := l8 x) rfl
  rw [hl]
  have := u8_lt a; have := u8_lt b; have := u8_lt c; have := u8_lt d; have := u8_lt e; have := u8_lt f; have := u8_lt g
  refine (bitmap_bits.run _ _ _ _ _ _ _ _).trans ?_
  simp only [List.getD_cons_zero, List.getD_cons_succ, nat8, List.foldl_cons, List.foldl_nil]
  rw [show (0 : Int) = ((0 : Nat) : Int) from rfl, orS_nat _ _ (by omega), orS_nat _ _ (by omega), orS_nat _ _ (by omega), orS_nat _ _ (by omega), orS_nat _ _ (by omega), orS_nat _ _ (by omega), orS_nat _ _ (by omega), orS_nat _ _ (by omega)]
 ·cases h
@[reducible] def bitmap_take.sg : List Shp := [.v (.int .i64), .v (.str), .v (.int .i64)]
@[reducible] def bitmap_take.rs : Rs := .tup [.a (.pair (.int .u8) (.pair (.int .u8) (.pair (.int .u8) (.pair (.int .u8) (.pair (.int .u8) (.pair (.int .u8) (.pair (.int .u8) (.int .u8)))))))), .v (.int .i64), .v (.int .i64)]
@[reducible] noncomputable def bitmap_take.code : Code := Tryz.f51.body.getD .skip
noncomputable def bitmap_take.C : Ctx := ⟨tab, [hexa_Get.c], [], ⟨[], []⟩⟩
theorem bitmap_take.eq (n : Nat) (a0 : Int) (a1 : ByteArray) (a2 : Int) : call bitmap_take.C Tryz.f51 bitmap_take.code bitmap_take.sg bitmap_take.rs n (a0, (a1, a2)) =
 (if a0 = 1 then (if IntKind.wrap .i64 ((a1.size : Int) - a2) < 16 then (some (((0, 0, 0, 0, 0, 0, 0, 0), 0, 2)))
 else ((ssub a1 a2 (IntKind.wrap .i64 (a2 + 16))).bind fun b0 =>
 (if a0 = 1 then ((hexa_Get.f b0).bind fun b1 =>
 (if ¬b1.2.2 = true then (some (((0, 0, 0, 0, 0, 0, 0, 0), 0, 3)))
 else (some (((scopy b1.1 0 0, scopy b1.1 1 0, scopy b1.1 2 0, scopy b1.1 3 0, scopy b1.1 4 0, scopy b1.1 5 0, scopy b1.1 6 0, scopy b1.1 7 0), IntKind.wrap .i64 (a2 + 16), 0)))))
 else (some (((scopy b0 0 0, scopy b0 1 0, scopy b0 2 0, scopy b0 3 0, scopy b0 4 0, scopy b0 5 0, scopy b0 6 0, scopy b0 7 0), IntKind.wrap .i64 (a2 + 16), 0))))))
 else (if IntKind.wrap .i64 ((a1.size : Int) - a2) < 8 then (some (((0, 0, 0, 0, 0, 0, 0, 0), 0, 2)))
 else ((ssub a1 a2 (IntKind.wrap .i64 (a2 + 8))).bind fun b2 =>
 (if a0 = 1 then ((hexa_Get.f b2).bind fun b3 =>
 (if ¬b3.2.2 = true then (some (((0, 0, 0, 0, 0, 0, 0, 0), 0, 3)))
 else (some (((scopy b3.1 0 0, scopy b3.1 1 0, scopy b3.1 2 0, scopy b3.1 3 0, scopy b3.1 4 0, scopy b3.1 5 0, scopy b3.1 6 0, scopy b3.1 7 0), IntKind.wrap .i64 (a2 + 8), 0)))))
 else (some (((scopy b2 0 0, scopy b2 1 0, scopy b2 2 0, scopy b2 3 0, scopy b2 4 0, scopy b2 5 0, scopy b2 6 0, scopy b2 7 0), IntKind.wrap .i64 (a2 + 8), 0))))))) := by kernel_rfl
noncomputable def bitmap_take.f : El (sgTy bitmap_take.sg) → Option (El bitmap_take.rs.ty) := fun x => match x with
 | (a0, (a1, a2)) =>
 (if a0 = 1 then (if IntKind.wrap IntKind.i64 ((↑(ByteArray.size a1) : Int) - a2) < 16 then (some (((0, 0, 0, 0, 0, 0, 0, 0), 0, 2)))
  else ((ssub a1 a2 (IntKind.wrap IntKind.i64 (a2 + 16))).bind fun b0 =>
  (if a0 = 1 then ((hexa_Get.f b0).bind fun b1 =>
   (if ¬Prod.snd (Prod.snd b1) = true then (some (((0, 0, 0, 0, 0, 0, 0, 0), 0, 3)))
   else (some (((scopy (Prod.fst b1) 0 0, scopy (Prod.fst b1) 1 0, scopy (Prod.fst b1) 2 0, scopy (Prod.fst b1) 3 0, scopy (Prod.fst b1) 4 0, scopy (Prod.fst b1) 5 0, scopy (Prod.fst b1) 6 0, scopy (Prod.fst b1) 7 0), IntKind.wrap IntKind.i64 (a2 + 16), 0)))))
  else (some (((scopy b0 0 0, scopy b0 1 0, scopy b0 2 0, scopy b0 3 0, scopy b0 4 0, scopy b0 5 0, scopy b0 6 0, scopy b0 7 0), IntKind.wrap IntKind.i64 (a2 + 16), 0))))))
 else (if IntKind.wrap IntKind.i64 ((↑(ByteArray.size a1) : Int) - a2) < 8 then (some (((0, 0, 0, 0, 0, 0, 0, 0), 0, 2)))
  else ((ssub a1 a2 (IntKind.wrap IntKind.i64 (a2 + 8))).bind fun b2 =>
  (if a0 = 1 then ((hexa_Get.f b2).bind fun b3 =>
   (if ¬Prod.snd (Prod.snd b3) = true then (some (((0, 0, 0, 0, 0, 0, 0, 0), 0, 3)))
   else (some (((scopy (Prod.fst b3) 0 0, scopy (Prod.fst b3) 1 0, scopy (Prod.fst b3) 2 0, scopy (Prod.fst b3) 3 0, scopy (Prod.fst b3) 4 0, scopy (Prod.fst b3) 5 0, scopy (Prod.fst b3) 6 0, scopy (Prod.fst b3) 7 0), IntKind.wrap IntKind.i64 (a2 + 8), 0)))))
  else (some (((scopy b2 0 0, scopy b2 1 0, scopy b2 2 0, scopy b2 3 0, scopy b2 4 0, scopy b2 5 0, scopy b2 6 0, scopy b2 7 0), IntKind.wrap IntKind.i64 (a2 + 8), 0)))))))
noncomputable def bitmap_take.c : Con := ⟨51, bitmap_take.sg, bitmap_take.rs, bitmap_take.f⟩
theorem bitmap_take.con : ConOk Tryz.prog bitmap_take.c := walked (C := bitmap_take.C) rfl (by kernel_rfl) (by kernel_rfl) (by kernel_rfl) rfl ⟨hexa_Get.con, trivial⟩ fun ⟨a0, ⟨a1, a2⟩⟩ y h => ⟨0, (bitmap_take.eq 0 a0 a1 a2).trans h⟩
theorem bitmap_take (s : Int) (l : List UInt8) (hl : l.length ≤ 70368744177664) (i : Nat) (hi : i ≤ l.length) : bitmap_take.f (s, (sb l, (i : Int))) = some (t8 (bitTake s l i).1, (((bitTake s l i).2.1 : Nat) : Int), (bitTake s l i).2.2) := by
 simp only [bitmap_take.f, bitTake, size_sb]
 rw [wrap_id (x := (l.length : Int) - (i : Int)) (by omega) (by omega)]
 have w16 : IntKind.wrap .i64 ((i : Int) + 16) = ((i + 16 : Nat) : Int) := by rw [wrap_id (by omega) (by omega)]; omega
 have w8 : IntKind.wrap .i64 ((i : Int) + 8) = ((i + 8 : Nat) : Int) := by rw [wrap_id (by omega) (by omega)]; omega
 rw [w16, w8]
 by_cases h1 : s = 1
 ·simp only [if_pos h1]
  by_cases h2 : l.length < i + 16
  ·rw [if_pos (by omega), if_pos h2]; rfl
  ·rw [if_neg (by omega), if_neg h2, ssub_sb _ _ _ (by omega) (by omega), Option.bind_some, List.drop_take, show i + 16 - i = 16 by omega, hexa_Get _ (by rw [List.length_take]; omega), Option.bind_some]
   by_cases h3 : (hexGet ((l.drop i).take 16)).2.2 = true
   ·rw [if_neg (by simp [h3]), if_pos h3, t8_copy]
   ·rw [if_pos (by simpa using h3), if_neg h3]; rfl
 ·simp only [if_neg h1]
  by_cases h2 : l.length < i + 8
  ·rw [if_pos (by omega), if_pos h2]; rfl
  ·rw [if_neg (by omega), if_neg h2, ssub_sb _ _ _ (by omega) (by omega), Option.bind_some, List.drop_take, show i + 8 - i = 8 by omega, t8_copy]
@[reducible] def bitmap_Put.sg : List Shp := [.v (.int .i64), .a (.pair (.int .u64) (.int .u64))]
@[reducible] def bitmap_Put.rs : Rs := .tup [.v (.str), .v (.int .i64)]
@[reducible] noncomputable def bitmap_Put.code : Code := Tryz.f39.body.getD .skip
noncomputable def bitmap_Put.C : Ctx := ⟨tab, [hexa_Put.c, bitmap_known.c, fields_Set_Has.c, fields_Set_Halves.c, bitmap_bytes.c], [], ⟨[], []⟩⟩
theorem bitmap_Put.eq (n : Nat) (a0 a1 a2 : Int) : call bitmap_Put.C Tryz.f39 bitmap_Put.code bitmap_Put.sg bitmap_Put.rs n (a0, (a1, a2)) =
 ((bitmap_known.f a0).bind fun b0 =>
 (if ¬b0 = true then (some ((ByteArray.mk #[], 1)))
 else ((fields_Set_Has.f ((a1, a2), 1)).bind fun b1 =>
 (if b1 = true then (some ((ByteArray.mk #[], 1)))
 else ((fields_Set_Halves.f (a1, a2)).bind fun b2 =>
 ((bitmap_bytes.f b2.2).bind fun b3 =>
 (if ¬(b3.1 = 0 ∧ b3.2.1 = 0 ∧ b3.2.2.1 = 0 ∧ b3.2.2.2.1 = 0 ∧ b3.2.2.2.2.1 = 0 ∧ b3.2.2.2.2.2.1 = 0 ∧ b3.2.2.2.2.2.2.1 = 0 ∧ b3.2.2.2.2.2.2.2 = 0 ∧ True) then ((bitmap_bytes.f (bits BinOp.or IntKind.u64 b2.1 9223372036854775808)).bind fun b4 =>
 ((scat (bytesOf [b4.1, b4.2.1, b4.2.2.1, b4.2.2.2.1, b4.2.2.2.2.1, b4.2.2.2.2.2.1, b4.2.2.2.2.2.2.1, b4.2.2.2.2.2.2.2]) (bytesOf [b3.1, b3.2.1, b3.2.2.1, b3.2.2.2.1, b3.2.2.2.2.1, b3.2.2.2.2.2.1, b3.2.2.2.2.2.2.1, b3.2.2.2.2.2.2.2])).bind fun b5 =>
 (if a0 = 1 then ((hexa_Put.f b5).bind fun b6 =>
 (some ((b6, 0))))
 else (some ((b5, 0))))))
 else ((bitmap_bytes.f b2.1).bind fun b7 =>
 ((scat (bytesOf [b7.1, b7.2.1, b7.2.2.1, b7.2.2.2.1, b7.2.2.2.2.1, b7.2.2.2.2.2.1, b7.2.2.2.2.2.2.1, b7.2.2.2.2.2.2.2]) (ByteArray.mk #[])).bind fun b8 =>
 (if a0 = 1 then ((hexa_Put.f b8).bind fun b9 =>
 (some ((b9, 0))))
 else (some ((b8, 0))))))))))))) := by kernel_rfl
noncomputable def bitmap_Put.f : El (sgTy bitmap_Put.sg) → Option (El bitmap_Put.rs.ty) := fun x => match x with
 | (a0, (a1, a2)) =>
 ((bitmap_known.f a0).bind fun b0 =>
 (if ¬b0 = true then (some ((ByteArray.mk #[], 1)))
 else ((fields_Set_Has.f ((a1, a2), 1)).bind fun b1 =>
  (if b1 = true then (some ((ByteArray.mk #[], 1)))
  else ((fields_Set_Halves.f (a1, a2)).bind fun b2 =>
  ((bitmap_bytes.f (Prod.snd b2)).bind fun b3 =>
  (if ¬(Prod.fst b3 = 0 ∧ Prod.fst (Prod.snd b3) = 0 ∧ Prod.fst (Prod.snd (Prod.snd b3)) = 0 ∧ Prod.fst (Prod.snd (Prod.snd (Prod.snd b3))) = 0 ∧ Prod.fst (Prod.snd (Prod.snd (Prod.snd (Prod.snd b3)))) = 0 ∧ Prod.fst (Prod.snd (Prod.snd (Prod.snd (Prod.snd (Prod.snd b3))))) = 0 ∧ Prod.fst (Prod.snd (Prod.snd (Prod.snd (Prod.snd (Prod.snd (Prod.snd b3)))))) = 0 ∧ Prod.snd (Prod.snd (Prod.snd (Prod.snd (Prod.snd (Prod.snd (Prod.snd b3)))))) = 0 ∧ True) then ((bitmap_bytes.f (bits BinOp.or IntKind.u64 (Prod.fst b2) 9223372036854775808)).bind fun b4 =>
   ((scat (bytesOf [Prod.fst b4, Prod.fst (Prod.snd b4), Prod.fst (Prod.snd (Prod.snd b4)), Prod.fst (Prod.snd (Prod.snd (Prod.snd b4))), Prod.fst (Prod.snd (Prod.snd (Prod.snd (Prod.snd b4)))), Prod.fst (Prod.snd (Prod.snd (Prod.snd (Prod.snd (Prod.snd b4))))), Prod.fst (Prod.snd (Prod.snd (Prod.snd (Prod.snd (Prod.snd (Prod.snd b4)))))), Prod.snd (Prod.snd (Prod.snd (Prod.snd (Prod.snd (Prod.snd (Prod.snd b4))))))]) (bytesOf [Prod.fst b3, Prod.fst (Prod.snd b3), Prod.fst (Prod.snd (Prod.snd b3)), Prod.fst (Prod.snd (Prod.snd (Prod.snd b3))), Prod.fst (Prod.snd (Prod.snd (Prod.snd (Prod.snd b3)))), Prod.fst (Prod.snd (Prod.snd (Prod.snd (Prod.snd (Prod.snd b3))))), Prod.fst (Prod.snd (Prod.snd (Prod.snd (Prod.snd (Prod.snd (Prod.snd b3)))))), Prod.snd (Prod.snd (Prod.snd (Prod.snd (Prod.snd (Prod.snd (Prod.snd b3))))))])).bind fun b5 =>
   (if a0 = 1 then ((hexa_Put.f b5).bind fun b6 =>
   (some ((b6, 0))))
   else (some ((b5, 0))))))
  else ((bitmap_bytes.f (Prod.fst b2)).bind fun b7 =>
   ((scat (bytesOf [Prod.fst b7, Prod.fst (Prod.snd b7), Prod.fst (Prod.snd (Prod.snd b7)), Prod.fst (Prod.snd (Prod.snd (Prod.snd b7))), Prod.fst (Prod.snd (Prod.snd (Prod.snd (Prod.snd b7)))), Prod.fst (Prod.snd (Prod.snd (Prod.snd (Prod.snd (Prod.snd b7))))), Prod.fst (Prod.snd (Prod.snd (Prod.snd (Prod.snd (Prod.snd (Prod.snd b7)))))), Prod.snd (Prod.snd (Prod.snd (Prod.snd (Prod.snd (Prod.snd (Prod.snd b7))))))]) (ByteArray.mk #[])).bind fun b8 =>
   (if a0 = 1 then ((hexa_Put.f b8).bind fun b9 =>
   (some ((b9, 0))))
   else (some ((b8, 0)))))))))))))
noncomputable def bitmap_Put.c : Con := ⟨39, bitmap_Put.sg, bitmap_Put.rs, bitmap_Put.f⟩
theorem bitmap_Put.con : ConOk Tryz.prog bitmap_Put.c := walked (C := bitmap_Put.C) rfl (by kernel_rfl) (by kernel_rfl) (by kernel_rfl) rfl ⟨hexa_Put.con, bitmap_known.con, fields_Set_Has.con, fields_Set_Halves.con, bitmap_bytes.con, trivial⟩ fun ⟨a0, ⟨a1, a2⟩⟩ y h => ⟨0, (bitmap_Put.eq 0 a0 a1 a2).trans h⟩
theorem fhas_one (h l : Nat) (hh : h < 18446744073709551616) : fhas h l 1 = decide (9223372036854775808 ≤ h) := by
 unfold fhas
 rw [if_neg (by omega), if_pos (by omega)]
 exact top_iff hh
theorem bitmap_Put (s : Int) (h l : Nat) (hh : h < 18446744073709551616) (hl : l < 18446744073709551616) : bitmap_Put.f (s, ((h : Int), (l : Int))) = some (sb (bitPut s h l).1, (bitPut s h l).2) := by
 simp only [bitmap_Put.f]
 rw [bitmap_known, Option.bind_some, bitPut]
 by_cases h1 : s = 1 ∨ s = 2
 ·rw [if_neg (by simp [h1]), fields_Set_Has h l hh hl, Option.bind_some, fhas_one h l hh]
  by_cases h2 : 9223372036854775808 ≤ h
  ·rw [if_pos (by simpa using h2), if_pos (.inr h2)]; rfl
  ·rw [if_neg (by simpa using h2), if_neg (show ¬ (¬ (s = 1 ∨ s = 2) ∨ 9223372036854775808 ≤ h) from fun e => e.elim (fun e => e h1) h2), fields_Set_Halves, Option.bind_some]
   dsimp only
   rw [bitmap_bytes l hl, Option.bind_some, bitRaw]
   have hz := t8_zero (be8_length l)
   rw [nat8_be8 hl] at hz
   by_cases h3 : l = 0
   ·rw [if_neg (by rw [hz]; exact fun e => e h3), bitmap_bytes h hh, Option.bind_some, t8_str (be8_length h), show (ByteArray.mk #[]) = sb [] from rfl, scat_sb _ _ (by rw [be8_length]; simp), Option.bind_some, List.append_nil, if_pos h3, hexa_Put _ (by rw [be8_length]; omega)]
    by_cases h4 : s = 1
    ·rw [if_pos h4, if_pos h4]; rfl
    ·rw [if_neg h4, if_neg h4]
   ·have hor : Go.bits .or .u64 (h : Int) 9223372036854775808 = ((9223372036854775808 + h : Nat) : Int) := by
     have := bits_or_u64_nat h 9223372036854775808 hh (by decide)
     rw [or_top (by omega)] at this; exact this
    rw [if_pos (by rw [hz]; exact h3), hor, bitmap_bytes _ (by omega), Option.bind_some, t8_str (be8_length _), t8_str (be8_length l), scat_sb _ _ (by rw [be8_length, be8_length]; omega), Option.bind_some, if_neg h3, hexa_Put _ (by rw [List.length_append, be8_length, be8_length]; omega)]
    by_cases h4 : s = 1
    ·rw [if_pos h4, if_pos h4]; rfl
    ·rw [if_neg h4, if_neg h4]
 ·rw [if_pos (by simp [h1]), if_pos (.inl h1)]; rfl
@[reducible] def bitmap_Get.sg : List Shp := [.v (.int .i64), .v (.str), .v (.int .i64)]
@[reducible] def bitmap_Get.rs : Rs := .tup [.a (.pair (.int .u64) (.int .u64)), .v (.int .i64), .v (.int .i64)]
@[reducible] noncomputable def bitmap_Get.code : Code := Tryz.f16.body.getD .skip
noncomputable def bitmap_Get.C : Ctx := ⟨tab, [bitmap_known.c, bitmap_take.c, bitmap_bits.c, fields_Bits.c], [], ⟨[], []⟩⟩
theorem bitmap_Get.eq (n : Nat) (a0 : Int) (a1 : ByteArray) (a2 : Int) : call bitmap_Get.C Tryz.f16 bitmap_Get.code bitmap_Get.sg bitmap_Get.rs n (a0, (a1, a2)) =
 ((bitmap_known.f a0).bind fun b0 =>
 (if ¬b0 = true then (some (((0, 0), 0, 1)))
 else (if a2 < 0 then (some (((0, 0), 0, 1)))
 else (if a2 > (a1.size : Int) then (some (((0, 0), 0, 1)))
 else ((bitmap_take.f (a0, a1, a2)).bind fun b1 =>
 (if ¬b1.2.2 = 0 then (some (((0, 0), 0, b1.2.2)))
 else ((bitmap_bits.f b1.1).bind fun b2 =>
 (if bits BinOp.and IntKind.u64 b2 9223372036854775808 = 0 then ((fields_Bits.f (b2, 0)).bind fun b3 =>
 (some ((b3, b1.2.1, 0))))
 else ((bitmap_take.f (a0, a1, b1.2.1)).bind fun b4 =>
 (if ¬b4.2.2 = 0 then (some (((0, 0), 0, b4.2.2)))
 else (if b4.1.1 = 0 ∧ b4.1.2.1 = 0 ∧ b4.1.2.2.1 = 0 ∧ b4.1.2.2.2.1 = 0 ∧ b4.1.2.2.2.2.1 = 0 ∧ b4.1.2.2.2.2.2.1 = 0 ∧ b4.1.2.2.2.2.2.2.1 = 0 ∧ b4.1.2.2.2.2.2.2.2 = 0 ∧ True then (some (((0, 0), 0, 8)))
 else ((bitmap_bits.f b4.1).bind fun b5 =>
 ((fields_Bits.f (bits BinOp.andNot IntKind.u64 b2 9223372036854775808, b5)).bind fun b6 =>
 (some ((b6, b4.2.1, 0)))))))))))))))) := by kernel_rfl
noncomputable def bitmap_Get.f : El (sgTy bitmap_Get.sg) → Option (El bitmap_Get.rs.ty) := fun x => match x with
 | (a0, (a1, a2)) =>
 ((bitmap_known.f a0).bind fun b0 =>
 (if ¬b0 = true then (some (((0, 0), 0, 1)))
 else (if a2 < 0 then (some (((0, 0), 0, 1)))
  else (if a2 > (↑(ByteArray.size a1) : Int) then (some (((0, 0), 0, 1)))
  else ((bitmap_take.f (a0, a1, a2)).bind fun b1 =>
   (if ¬Prod.snd (Prod.snd b1) = 0 then (some (((0, 0), 0, Prod.snd (Prod.snd b1))))
   else ((bitmap_bits.f (Prod.fst b1)).bind fun b2 =>
   (if bits BinOp.and IntKind.u64 b2 9223372036854775808 = 0 then ((fields_Bits.f (b2, 0)).bind fun b3 =>
    (some ((b3, Prod.fst (Prod.snd b1), 0))))
   else ((bitmap_take.f (a0, a1, Prod.fst (Prod.snd b1))).bind fun b4 =>
    (if ¬Prod.snd (Prod.snd b4) = 0 then (some (((0, 0), 0, Prod.snd (Prod.snd b4))))
    else (if Prod.fst (Prod.fst b4) = 0 ∧ Prod.fst (Prod.snd (Prod.fst b4)) = 0 ∧ Prod.fst (Prod.snd (Prod.snd (Prod.fst b4))) = 0 ∧ Prod.fst (Prod.snd (Prod.snd (Prod.snd (Prod.fst b4)))) = 0 ∧ Prod.fst (Prod.snd (Prod.snd (Prod.snd (Prod.snd (Prod.fst b4))))) = 0 ∧ Prod.fst (Prod.snd (Prod.snd (Prod.snd (Prod.snd (Prod.snd (Prod.fst b4)))))) = 0 ∧ Prod.fst (Prod.snd (Prod.snd (Prod.snd (Prod.snd (Prod.snd (Prod.snd (Prod.fst b4))))))) = 0 ∧ Prod.snd (Prod.snd (Prod.snd (Prod.snd (Prod.snd (Prod.snd (Prod.snd (Prod.fst b4))))))) = 0 ∧ True then (some (((0, 0), 0, 8)))
    else ((bitmap_bits.f (Prod.fst b4)).bind fun b5 =>
     ((fields_Bits.f (bits BinOp.andNot IntKind.u64 b2 9223372036854775808, b5)).bind fun b6 =>
     (some ((b6, Prod.fst (Prod.snd b4), 0))))))))))))))))
noncomputable def bitmap_Get.c : Con := ⟨16, bitmap_Get.sg, bitmap_Get.rs, bitmap_Get.f⟩
theorem bitmap_Get.con : ConOk Tryz.prog bitmap_Get.c := walked (C := bitmap_Get.C) rfl (by kernel_rfl) (by kernel_rfl) (by kernel_rfl) rfl ⟨bitmap_known.con, bitmap_take.con, bitmap_bits.con, fields_Bits.con, trivial⟩ fun ⟨a0, ⟨a1, a2⟩⟩ y h => ⟨0, (bitmap_Get.eq 0 a0 a1 a2).trans h⟩
theorem bitTake_next (s : Int) (l : List UInt8) (i : Nat) (hi : i ≤ l.length) : (bitTake s l i).2.1 ≤ l.length := by
 unfold bitTake
 repeat' split
 all_goals dsimp only <;> omega
theorem bitmap_Get (s : Int) (l : List UInt8) (hl : l.length ≤ 70368744177664) (a : Int) : bitmap_Get.f (s, (sb l, a)) = some (((((bitGet s l a).1.1 : Nat) : Int), (((bitGet s l a).1.2 : Nat) : Int)), (((bitGet s l a).2.1 : Nat) : Int), (bitGet s l a).2.2) := by
 simp only [bitmap_Get.f]
 rw [bitmap_known, Option.bind_some]
 unfold bitGet
 by_cases h1 : s = 1 ∨ s = 2
 ·rw [if_neg (by simp [h1])]
  by_cases h2 : a < 0
  ·rw [if_pos h2, if_pos (.inr (.inl h2))]; rfl
  rw [if_neg h2, size_sb]
  by_cases h3 : a > (l.length : Int)
  ·rw [if_pos h3, if_pos (.inr (.inr h3))]; rfl
  obtain ⟨i, rfl⟩ := Int.eq_ofNat_of_zero_le (show 0 ≤ a by omega)
  rw [if_neg h3, if_neg (by omega)]
  have h3 : i ≤ l.length := by simpa using h3
  rw [Int.toNat_natCast]
  rw [bitmap_take s l hl i h3, Option.bind_some]
  dsimp only
  have e1 := bitTake_len s l i
  by_cases h4 : (bitTake s l i).2.2 = 0
  ·rw [if_neg (show ¬ ¬ (bitTake s l i).2.2 = 0 from fun e => e h4), if_neg (show ¬ (bitTake s l i).2.2 ≠ 0 from fun e => e h4), bitmap_bits _ e1, Option.bind_some]
   have hx := nat8_lt e1
   have n1 := bitTake_next s l i h3
   generalize nat8 (bitTake s l i).1 = x at *
   have ha := bits_and_u64_nat x 9223372036854775808 hx (by decide)
   rw [and_top, top_iff hx] at ha
   have ha : Go.bits .and .u64 (x : Int) 9223372036854775808 = _ := ha
   rw [ha]
   by_cases h5 : x < 9223372036854775808
   ·rw [if_pos (by simp; omega), if_pos h5]; rfl
   ·rw [if_neg (by rw [if_pos (by simp; omega)]; decide), if_neg h5, bitmap_take s l hl _ n1, Option.bind_some]
    dsimp only
    have e2 := bitTake_len s l (bitTake s l i).2.1
    by_cases h6 : (bitTake s l (bitTake s l i).2.1).2.2 = 0
    ·rw [if_neg (show ¬ ¬ (bitTake s l (bitTake s l i).2.1).2.2 = 0 from fun e => e h6), if_neg (show ¬ (bitTake s l (bitTake s l i).2.1).2.2 ≠ 0 from fun e => e h6)]
     have hz := t8_zero e2
     by_cases h7 : nat8 (bitTake s l (bitTake s l i).2.1).1 = 0
     ·rw [if_pos (hz.2 h7), if_pos h7]; rfl
     ·rw [if_neg (fun e => h7 (hz.1 e)), if_neg h7, bitmap_bits _ e2, Option.bind_some, fields_Bits, Option.bind_some, andNot_top x hx]
    ·rw [if_pos (show ¬ (bitTake s l (bitTake s l i).2.1).2.2 = 0 from h6), if_pos (show (bitTake s l (bitTake s l i).2.1).2.2 ≠ 0 from h6)]; rfl
  ·rw [if_pos (show ¬ (bitTake s l i).2.2 = 0 from h4), if_pos (show (bitTake s l i).2.2 ≠ 0 from h4)]; rfl
 ·rw [if_pos (by simp [h1]), if_pos (.inl h1)]; rfl
end Go.Proofs.YtkaihbkfobiejaaGreatDoor.Xe
