/- What the program's digits.Pad answers. -/
import Derived.Test.YtkaihbkfobiejaaGreatDoorNgi
import Derived.Test.YtkaihbkfobiejaaGreatDoorSrp
import Derived.Test.YtkaihbkfobiejaaGreatDoorEgc
namespace Go.Proofs.YtkaihbkfobiejaaGreatDoor.Xe
open Go Go.RowKit Go.Proofs.YtkaihbkfobiejaaGreatDoor.Sp
set_option linter.unusedVariables false
set_option linter.unusedSimpArgs false
set_option maxRecDepth 100000
/-! ### strings_trimLeftByte -/
@[reducible] def strings_trimLeftByte.sg : List Shp := [.v (.str), .v (.int .u8)]
@[reducible] def strings_trimLeftByte.rs : Rs := .one (.v (.str))
@[reducible] noncomputable def strings_trimLeftByte.code : Code := Tryz.f158.body.getD .skip
noncomputable def strings_trimLeftByte.C : Ctx := ⟨tab, [], [], ⟨[(1, [0, 1], 0)], []⟩⟩
noncomputable def strings_trimLeftByte.l0 (n : Nat) (v0 : ByteArray) (v1 : Int) : Option ByteArray := run strings_trimLeftByte.C (finOf strings_trimLeftByte.C Tryz.f158 strings_trimLeftByte.rs) n (todoAt 1 strings_trimLeftByte.code) ⟨[.str v0, .int .u8 v1, .junk, .junk, .junk, .junk, .junk, .junk, .junk, .junk, .junk, .junk, .junk, .junk, .junk, .junk, .junk], [], []⟩
-- the loop at region 1
theorem strings_trimLeftByte.l0_eq (n : Nat) (v0 : ByteArray) (v1 : Int) : strings_trimLeftByte.l0 (n + 1) v0 v1 =
  (if (↑(ByteArray.size v0) : Int) > 0 then ((bget v0 0).bind fun b0 =>
   (if (↑(UInt8.toNat b0) : Int) = v1 then ((ssub v0 1 (↑(ByteArray.size v0) : Int)).bind fun b1 =>
    (strings_trimLeftByte.l0 n b1 v1))
   else (some v0)))
  else (some v0)) := by kernel_rfl
theorem strings_trimLeftByte.eq (n : Nat) (a0 : ByteArray) (a1 : Int) : call strings_trimLeftByte.C Tryz.f158 strings_trimLeftByte.code strings_trimLeftByte.sg strings_trimLeftByte.rs n (a0, a1) =
  (strings_trimLeftByte.l0 n a0 a1) := by kernel_rfl
noncomputable def strings_trimLeftByte.f (x : ByteArray × Int) : Option ByteArray := if x.2 = 48 ∧ x.1.size ≤ 1000000 then some (sb ((bl x.1).dropWhile (· == 48))) else none
theorem strings_trimLeftByte_l : ∀ (l : List UInt8) (k : Nat), l.length ≤ 1000000 → l.length < k → strings_trimLeftByte.l0 k (sb l) 48 = some (sb (l.dropWhile (· == 48)))
  | [], k, hl, hk => by
    obtain ⟨k, rfl⟩ : ∃ m, k = m + 1 := ⟨k - 1, by omega⟩
    rw [strings_trimLeftByte.l0_eq, if_neg (by rw [size_sb]; simp)]; rfl
  | x :: l, k, hl, hk => by
    obtain ⟨k, rfl⟩ : ∃ m, k = m + 1 := ⟨k - 1, by omega⟩
    have hk' : l.length < k := by simp at hk; omega
    have g := bget_sb (x :: l) 0 (by simp)
    have s1 := ssub_sb (x :: l) 1 (x :: l).length (by simp) (Nat.le_refl _)
    rw [List.take_of_length_le (Nat.le_refl _)] at s1
    rw [strings_trimLeftByte.l0_eq, size_sb, if_pos (by simp only [List.length_cons]; omega), show bget (sb (x :: l)) 0 = some x from g, Option.bind_some, List.dropWhile_cons]
    by_cases c : x = 48
    · subst c
      rw [if_pos (show (((48 : UInt8).toNat : Nat) : Int) = 48 from rfl), if_pos (show ((48 : UInt8) == 48) = true from rfl), show ssub (sb (48 :: l)) 1 (((48 :: l).length : Nat) : Int) = some (sb l) from s1, Option.bind_some]
      exact strings_trimLeftByte_l l k (by simp at hl; omega) hk'
    · rw [if_neg (fun e => c (by apply UInt8.toNat_inj.1; simpa using (Int.ofNat_inj.1 e))), if_neg (by simpa using c)]
noncomputable def strings_trimLeftByte.c : Con := ⟨158, strings_trimLeftByte.sg, strings_trimLeftByte.rs, strings_trimLeftByte.f⟩
theorem strings_trimLeftByte.con : ConOk Tryz.prog strings_trimLeftByte.c := walked (C := strings_trimLeftByte.C) rfl (by kernel_rfl) (by kernel_rfl) (by kernel_rfl) rfl trivial fun ⟨s, c⟩ y h => by
  have h : strings_trimLeftByte.f (s, c) = some y := h
  obtain ⟨l, rfl⟩ := ex_sb s
  unfold strings_trimLeftByte.f at h
  split at h
  · rename_i hc
    obtain ⟨rfl, hl⟩ := hc
    dsimp only at hl h
    rw [size_sb] at hl
    rw [bl_sb] at h
    exact ⟨l.length + 1, by rw [strings_trimLeftByte.eq, ← h]; exact strings_trimLeftByte_l l _ hl (by omega)⟩
  · cases h
/-! ### strings_trimRightByte -/
@[reducible] def strings_trimRightByte.sg : List Shp := [.v (.str), .v (.int .u8)]
@[reducible] def strings_trimRightByte.rs : Rs := .one (.v (.str))
@[reducible] noncomputable def strings_trimRightByte.code : Code := Tryz.f159.body.getD .skip
noncomputable def strings_trimRightByte.C : Ctx := ⟨tab, [], [], ⟨[(1, [0, 1], 0)], []⟩⟩
noncomputable def strings_trimRightByte.l0 (n : Nat) (v0 : ByteArray) (v1 : Int) : Option ByteArray := run strings_trimRightByte.C (finOf strings_trimRightByte.C Tryz.f159 strings_trimRightByte.rs) n (todoAt 1 strings_trimRightByte.code) ⟨[.str v0, .int .u8 v1, .junk, .junk, .junk, .junk, .junk, .junk, .junk, .junk, .junk, .junk, .junk, .junk, .junk, .junk, .junk, .junk, .junk, .junk, .junk, .junk, .junk], [], []⟩
-- the loop at region 1
theorem strings_trimRightByte.l0_eq (n : Nat) (v0 : ByteArray) (v1 : Int) : strings_trimRightByte.l0 (n + 1) v0 v1 =
  (if (↑(ByteArray.size v0) : Int) > 0 then ((bget v0 (IntKind.wrap IntKind.i64 ((↑(ByteArray.size v0) : Int) - 1))).bind fun b0 =>
   (if (↑(UInt8.toNat b0) : Int) = v1 then ((ssub v0 0 (IntKind.wrap IntKind.i64 ((↑(ByteArray.size v0) : Int) - 1))).bind fun b1 =>
    (strings_trimRightByte.l0 n b1 v1))
   else (some v0)))
  else (some v0)) := by kernel_rfl
theorem strings_trimRightByte.eq (n : Nat) (a0 : ByteArray) (a1 : Int) : call strings_trimRightByte.C Tryz.f159 strings_trimRightByte.code strings_trimRightByte.sg strings_trimRightByte.rs n (a0, a1) =
  (strings_trimRightByte.l0 n a0 a1) := by kernel_rfl
noncomputable def strings_trimRightByte.f (x : ByteArray × Int) : Option ByteArray := if x.2 = 48 ∧ x.1.size ≤ 1000000 then some (sb (stripR (bl x.1))) else none
theorem strings_trimRightByte_l : ∀ (n : Nat) (l : List UInt8) (k : Nat), l.length = n → l.length ≤ 1000000 → l.length < k → strings_trimRightByte.l0 k (sb l) 48 = some (sb (stripR l))
  | 0, l, k, hn, hl, hk => by
    obtain ⟨k, rfl⟩ : ∃ m, k = m + 1 := ⟨k - 1, by omega⟩
    obtain rfl := List.eq_nil_of_length_eq_zero hn
    rw [strings_trimRightByte.l0_eq, if_neg (by rw [size_sb]; simp)]; rfl
  | n + 1, l, k, hn, hl, hk => by
    obtain ⟨k, rfl⟩ : ∃ m, k = m + 1 := ⟨k - 1, by omega⟩
    have hne : l ≠ [] := fun e => by rw [e] at hn; cases hn
    obtain ⟨m, x, rfl⟩ : ∃ m x, l = m ++ [x] := ⟨l.dropLast, l.getLast hne, (List.dropLast_concat_getLast hne).symm⟩
    have hm : m.length = n := by rw [List.length_append, List.length_singleton] at hn; omega
    have hlen : (m ++ [x]).length = m.length + 1 := by rw [List.length_append, List.length_singleton]
    have w1 : IntKind.wrap .i64 (((m ++ [x]).length : Int) - 1) = ((m.length : Nat) : Int) := by rw [hlen, wrap_id (by omega) (by omega)]; omega
    have g := bget_sb (m ++ [x]) m.length (by omega)
    have hx : (m ++ [x])[m.length]'(by omega) = x := by simp
    rw [hx] at g
    have s1 := ssub_sb (m ++ [x]) 0 m.length (by omega) (by omega)
    rw [List.drop_zero, List.take_left' rfl] at s1
    rw [strings_trimRightByte.l0_eq, size_sb, if_pos (by omega), w1, g, Option.bind_some, stripR_concat]
    by_cases c : x = 48
    · subst c
      rw [if_pos (show (((48 : UInt8).toNat : Nat) : Int) = 48 from rfl), if_pos rfl, show ssub (sb (m ++ [48])) 0 ((m.length : Nat) : Int) = some (sb m) from s1, Option.bind_some]
      exact strings_trimRightByte_l n m k hm (by omega) (by omega)
    · rw [if_neg (fun e => c (by apply UInt8.toNat_inj.1; simpa using (Int.ofNat_inj.1 e))), if_neg c]
noncomputable def strings_trimRightByte.c : Con := ⟨159, strings_trimRightByte.sg, strings_trimRightByte.rs, strings_trimRightByte.f⟩
theorem strings_trimRightByte.con : ConOk Tryz.prog strings_trimRightByte.c := walked (C := strings_trimRightByte.C) rfl (by kernel_rfl) (by kernel_rfl) (by kernel_rfl) rfl trivial fun ⟨s, c⟩ y h => by
  have h : strings_trimRightByte.f (s, c) = some y := h
  obtain ⟨l, rfl⟩ := ex_sb s
  unfold strings_trimRightByte.f at h
  split at h
  · rename_i hc
    obtain ⟨rfl, hl⟩ := hc
    dsimp only at hl h
    rw [size_sb] at hl
    rw [bl_sb] at h
    exact ⟨l.length + 1, by rw [strings_trimRightByte.eq, ← h]; exact strings_trimRightByte_l l.length l _ rfl hl (by omega)⟩
  · cases h
@[reducible] def strings_makeASCIISet.sg : List Shp := [.v (.str)]
@[reducible] def strings_makeASCIISet.rs : Rs := .tup [.v (.unit), .v (.bool)]
@[reducible] noncomputable def strings_makeASCIISet.code : Code := Tryz.f160.body.getD .skip
def strings_makeASCIISet.f : El (sgTy strings_makeASCIISet.sg) → Option (El strings_makeASCIISet.rs.ty) := fun _ => none
noncomputable def strings_makeASCIISet.c : Con := ⟨160, strings_makeASCIISet.sg, strings_makeASCIISet.rs, strings_makeASCIISet.f⟩
theorem strings_makeASCIISet.con : ConOk Tryz.prog strings_makeASCIISet.c := ⟨⟨_, Tryz.func160, by kernel_rfl, by kernel_rfl⟩, fun x y h => by cases h⟩
@[reducible] def strings_trimLeftASCII.sg : List Shp := [.v (.str), .v (.unit)]
@[reducible] def strings_trimLeftASCII.rs : Rs := .one (.v (.str))
@[reducible] noncomputable def strings_trimLeftASCII.code : Code := Tryz.f161.body.getD .skip
def strings_trimLeftASCII.f : El (sgTy strings_trimLeftASCII.sg) → Option (El strings_trimLeftASCII.rs.ty) := fun _ => none
noncomputable def strings_trimLeftASCII.c : Con := ⟨161, strings_trimLeftASCII.sg, strings_trimLeftASCII.rs, strings_trimLeftASCII.f⟩
theorem strings_trimLeftASCII.con : ConOk Tryz.prog strings_trimLeftASCII.c := ⟨⟨_, Tryz.func161, by kernel_rfl, by kernel_rfl⟩, fun x y h => by cases h⟩
@[reducible] def strings_trimRightASCII.sg : List Shp := [.v (.str), .v (.unit)]
@[reducible] def strings_trimRightASCII.rs : Rs := .one (.v (.str))
@[reducible] noncomputable def strings_trimRightASCII.code : Code := Tryz.f162.body.getD .skip
def strings_trimRightASCII.f : El (sgTy strings_trimRightASCII.sg) → Option (El strings_trimRightASCII.rs.ty) := fun _ => none
noncomputable def strings_trimRightASCII.c : Con := ⟨162, strings_trimRightASCII.sg, strings_trimRightASCII.rs, strings_trimRightASCII.f⟩
theorem strings_trimRightASCII.con : ConOk Tryz.prog strings_trimRightASCII.c := ⟨⟨_, Tryz.func162, by kernel_rfl, by kernel_rfl⟩, fun x y h => by cases h⟩
@[reducible] def strings_trimLeftUnicode.sg : List Shp := [.v (.str), .v (.str)]
@[reducible] def strings_trimLeftUnicode.rs : Rs := .one (.v (.str))
@[reducible] noncomputable def strings_trimLeftUnicode.code : Code := Tryz.f163.body.getD .skip
def strings_trimLeftUnicode.f : El (sgTy strings_trimLeftUnicode.sg) → Option (El strings_trimLeftUnicode.rs.ty) := fun _ => none
noncomputable def strings_trimLeftUnicode.c : Con := ⟨163, strings_trimLeftUnicode.sg, strings_trimLeftUnicode.rs, strings_trimLeftUnicode.f⟩
theorem strings_trimLeftUnicode.con : ConOk Tryz.prog strings_trimLeftUnicode.c := ⟨⟨_, Tryz.func163, by kernel_rfl, by kernel_rfl⟩, fun x y h => by cases h⟩
@[reducible] def strings_trimRightUnicode.sg : List Shp := [.v (.str), .v (.str)]
@[reducible] def strings_trimRightUnicode.rs : Rs := .one (.v (.str))
@[reducible] noncomputable def strings_trimRightUnicode.code : Code := Tryz.f164.body.getD .skip
def strings_trimRightUnicode.f : El (sgTy strings_trimRightUnicode.sg) → Option (El strings_trimRightUnicode.rs.ty) := fun _ => none
noncomputable def strings_trimRightUnicode.c : Con := ⟨164, strings_trimRightUnicode.sg, strings_trimRightUnicode.rs, strings_trimRightUnicode.f⟩
theorem strings_trimRightUnicode.con : ConOk Tryz.prog strings_trimRightUnicode.c := ⟨⟨_, Tryz.func164, by kernel_rfl, by kernel_rfl⟩, fun x y h => by cases h⟩
/-! ### strings_Trim -/
@[reducible] def strings_Trim.sg : List Shp := [.v (.str), .v (.str)]
@[reducible] def strings_Trim.rs : Rs := .one (.v (.str))
@[reducible] noncomputable def strings_Trim.code : Code := Tryz.f138.body.getD .skip
noncomputable def strings_Trim.C : Ctx := ⟨tab, [strings_trimLeftByte.c, strings_trimRightByte.c, strings_makeASCIISet.c, strings_trimLeftASCII.c, strings_trimRightASCII.c, strings_trimLeftUnicode.c, strings_trimRightUnicode.c], [], ⟨[], []⟩⟩
theorem strings_Trim.eq (n : Nat) (a0 : ByteArray) (a1 : ByteArray) : call strings_Trim.C Tryz.f138 strings_Trim.code strings_Trim.sg strings_Trim.rs n (a0, a1) =
  (if a0 = ByteArray.mk #[] then (some a0)
  else (if a1 = ByteArray.mk #[] then (some a0)
   else (if (↑(ByteArray.size a1) : Int) = 1 then ((bget a1 0).bind fun b0 =>
     (if (↑(UInt8.toNat b0) : Int) < 128 then ((bget a1 0).bind fun b1 =>
      ((strings_trimRightByte.f (a0, (↑(UInt8.toNat b1) : Int))).bind fun b2 =>
      ((bget a1 0).bind fun b3 =>
      ((strings_trimLeftByte.f (b2, (↑(UInt8.toNat b3) : Int))).bind fun b4 =>
      (some b4)))))
     else ((strings_makeASCIISet.f a1).bind fun b5 =>
      none)))
    else ((strings_makeASCIISet.f a1).bind fun b6 =>
     none)))) := by kernel_rfl
noncomputable def strings_Trim.f (x : ByteArray × ByteArray) : Option ByteArray := if x.2 = ByteArray.mk #[48] ∧ x.1.size ≤ 1000000 then some (sb (stripB (bl x.1))) else none
theorem strings_Trim (l : List UInt8) (hl : l.length ≤ 1000000) : strings_Trim.f (sb l, ByteArray.mk #[48]) = some (sb (stripB l)) := by
  unfold strings_Trim.f
  rw [if_pos ⟨rfl, by rw [size_sb]; exact hl⟩]
  dsimp only
  rw [bl_sb]
theorem stripR_length (l : List UInt8) : (stripR l).length ≤ l.length := by
  unfold stripR
  rw [List.length_reverse]
  have := (List.dropWhile_sublist (p := (· == (48 : UInt8))) (l := l.reverse)).length_le
  rw [List.length_reverse] at this
  exact this
noncomputable def strings_Trim.c : Con := ⟨138, strings_Trim.sg, strings_Trim.rs, strings_Trim.f⟩
theorem strings_Trim.con : ConOk Tryz.prog strings_Trim.c := walked (C := strings_Trim.C) rfl (by kernel_rfl) (by kernel_rfl) (by kernel_rfl) rfl ⟨strings_trimLeftByte.con, strings_trimRightByte.con, strings_makeASCIISet.con, strings_trimLeftASCII.con, strings_trimRightASCII.con, strings_trimLeftUnicode.con, strings_trimRightUnicode.con, trivial⟩ fun ⟨s, c⟩ y h => by
  have h : strings_Trim.f (s, c) = some y := h
  obtain ⟨l, rfl⟩ := ex_sb s
  unfold strings_Trim.f at h
  split at h
  · rename_i hc
    obtain ⟨rfl, hl⟩ := hc
    dsimp only at hl h
    rw [size_sb] at hl
    rw [bl_sb] at h
    refine ⟨0, ?_⟩
    have g : bget (ByteArray.mk #[48]) 0 = some 48 := by kernel_rfl
    rw [strings_Trim.eq, ← h]
    by_cases c : sb l = ByteArray.mk #[]
    · obtain rfl := sb_inj (b := []) c
      rw [if_pos c]; rfl
    · have r1 : strings_trimRightByte.f (sb l, 48) = some (sb (stripR l)) := by
        unfold strings_trimRightByte.f
        rw [if_pos ⟨rfl, by rw [size_sb]; exact hl⟩]
        dsimp only
        rw [bl_sb]
      have r2 : strings_trimLeftByte.f (sb (stripR l), 48) = some (sb (stripB l)) := by
        unfold strings_trimLeftByte.f
        rw [if_pos ⟨rfl, by rw [size_sb]; exact Nat.le_trans (stripR_length l) hl⟩]
        dsimp only
        rw [bl_sb]; rfl
      rw [if_neg c, if_neg (by decide), if_pos (by decide), g, Option.bind_some, if_pos (by decide), Option.bind_some, show (((48 : UInt8).toNat : Nat) : Int) = 48 from rfl, r1, Option.bind_some, Option.bind_some, show strings_trimLeftByte.f (sb (stripR l), (((48 : UInt8).toNat : Nat) : Int)) = _ from r2, Option.bind_some]
  · cases h
@[reducible] def strings_Repeat.sg : List Shp := [.v (.str), .v (.int .i64)]
@[reducible] def strings_Repeat.rs : Rs := .one (.v (.str))
noncomputable def strings_Repeat.f (x : ByteArray × Int) : Option ByteArray := if x.1 = ByteArray.mk #[48] ∧ 0 ≤ x.2 ∧ x.2 ≤ 1000000 then some (sb (List.replicate x.2.toNat 48)) else none
noncomputable def strings_Repeat.c : Con := ⟨137, strings_Repeat.sg, strings_Repeat.rs, strings_Repeat.f⟩
theorem repeat_one : ∀ n : Nat, Lib.repeatL [48] n = List.replicate n 48
  | 0 => rfl
  | n + 1 => by rw [Lib.repeatL, repeat_one n, List.replicate_succ]; rfl
theorem strings_Repeat.con : ConOk Tryz.prog strings_Repeat.c := ⟨⟨_, Tryz.func137, by kernel_rfl, by kernel_rfl⟩, fun ⟨s, c⟩ y h σ w vs hf hr => by
  have h : strings_Repeat.f (s, c) = some y := h
  obtain ⟨v, vs', rfl, hv, v2, rfl, hv2⟩ : ∃ v vs', vs = v :: vs' ∧ [v] = [Value.string s] ∧ ∃ v2, vs' = [v2] ∧ [v2] = [Value.int .i64 c] := hr
  obtain rfl := (List.cons.inj hv).1
  obtain rfl := (List.cons.inj hv2).1
  unfold strings_Repeat.f at h
  split at h
  · rename_i hc
    obtain ⟨rfl, c1, c2⟩ := hc
    dsimp only at c1 c2
    obtain ⟨n, rfl⟩ := Int.eq_ofNat_of_zero_le c1
    have h := Option.some.inj h
    refine (Go.Proofs.Tryz.strings_Repeat (ByteArray.mk #[48]) n w (by omega) (by rw [show (ByteArray.mk #[48]).size = 1 from rfl]; omega)).mono ?_
    rintro e w' ⟨rfl, hb⟩
    refine ⟨_, σ, rfl, ⟨hb, fun _ _ h => h, fun _ _ h => .inl h, fun b o h => Nat.lt_of_lt_of_le (hf b o h) hb.size⟩, ?_⟩
    show [Value.string _] = [Value.string y]
    rw [← h]
    show [Value.string ⟨(Lib.repeatL [48] n).toArray⟩] = [Value.string (sb (List.replicate n 48))]
    rw [repeat_one]; rfl
  · cases h⟩
/-! ### digits_Pad -/
@[reducible] def digits_Pad.sg : List Shp := [.v (.str), .v (.int .i64)]
@[reducible] def digits_Pad.rs : Rs := .tup [.v (.str), .v (.bool)]
@[reducible] noncomputable def digits_Pad.code : Code := Tryz.f109.body.getD .skip
noncomputable def digits_Pad.C : Ctx := ⟨tab, [digits_All.c, strings_Repeat.c, strings_Trim.c], [], ⟨[], []⟩⟩
theorem digits_Pad.eq (n : Nat) (a0 : ByteArray) (a1 : Int) : call digits_Pad.C Tryz.f109 digits_Pad.code digits_Pad.sg digits_Pad.rs n (a0, a1) =
  (if a0 = ByteArray.mk #[] then (some ((ByteArray.mk #[], false)))
  else (if (↑(ByteArray.size a0) : Int) > 999 then (some ((ByteArray.mk #[], false)))
   else ((digits_All.f a0).bind fun b0 =>
    (if ¬b0 = true then (some ((ByteArray.mk #[], false)))
    else (if a1 < 1 then (some ((ByteArray.mk #[], false)))
     else (if a1 > 999 then (some ((ByteArray.mk #[], false)))
      else (if (↑(ByteArray.size a0) : Int) ≤ a1 then ((strings_Repeat.f (ByteArray.mk #[48], IntKind.wrap IntKind.i64 (a1 - (↑(ByteArray.size a0) : Int)))).bind fun b1 =>
        ((scat b1 a0).bind fun b2 =>
        (some ((b2, true)))))
       else ((ssub a0 0 (IntKind.wrap IntKind.i64 ((↑(ByteArray.size a0) : Int) - a1))).bind fun b3 =>
        ((strings_Trim.f (b3, ByteArray.mk #[48])).bind fun b4 =>
        (if ¬b4 = ByteArray.mk #[] then (some ((ByteArray.mk #[], false)))
        else ((ssub a0 (IntKind.wrap IntKind.i64 ((↑(ByteArray.size a0) : Int) - a1)) (↑(ByteArray.size a0) : Int)).bind fun b5 =>
         (some ((b5, true)))))))))))))) := by kernel_rfl
noncomputable def digits_Pad.f (x : ByteArray × Int) : Option (ByteArray × Bool) := some (sb (padB (bl x.1) x.2).1, (padB (bl x.1) x.2).2)
theorem digits_Pad (l : List UInt8) (w : Int) : digits_Pad.f (sb l, w) = some (sb (padB l w).1, (padB l w).2) := by
  unfold digits_Pad.f
  dsimp only
  rw [bl_sb]
theorem digits_Pad.run (l : List UInt8) (w : Int) : call digits_Pad.C Tryz.f109 digits_Pad.code digits_Pad.sg digits_Pad.rs 0 (sb l, w) = some (sb (padB l w).1, (padB l w).2) := by
  rw [digits_Pad.eq, digits_All, Option.bind_some, size_sb]
  unfold padB
  by_cases c1 : l = []
  · subst c1
    rw [if_pos (show sb [] = ByteArray.mk #[] from rfl), if_pos (.inl rfl)]; rfl
  rw [if_neg (show ¬ sb l = ByteArray.mk #[] from fun e => c1 (sb_inj (b := []) e))]
  by_cases c2 : 999 < l.length
  · rw [if_pos (by omega), if_pos (.inr (.inl c2))]; rfl
  rw [if_neg (by omega)]
  cases c3 : l.all dig
  · rw [if_pos (by simp), if_pos (.inr (.inr (.inl rfl)))]; rfl
  rw [if_neg (by simp)]
  by_cases c4 : w < 1
  · rw [if_pos c4, if_pos (.inr (.inr (.inr (.inl c4))))]; rfl
  rw [if_neg c4]
  by_cases c5 : w > 999
  · rw [if_pos c5, if_pos (.inr (.inr (.inr (.inr c5))))]; rfl
  have hn : ¬ (l = [] ∨ 999 < l.length ∨ true = false ∨ w < 1 ∨ 999 < w) := by
    rintro (h | h | h | h | h)
    · exact c1 h
    · omega
    · cases h
    · omega
    · omega
  rw [if_neg c5, if_neg hn]
  obtain ⟨w, rfl⟩ := Int.eq_ofNat_of_zero_le (show 0 ≤ w by omega)
  by_cases c6 : (l.length : Int) ≤ (w : Int)
  · have w1 : IntKind.wrap .i64 ((w : Int) - (l.length : Int)) = ((w - l.length : Nat) : Int) := by rw [wrap_id (by omega) (by omega)]; omega
    have r1 : strings_Repeat.f (ByteArray.mk #[48], ((w - l.length : Nat) : Int)) = some (sb (List.replicate (w - l.length) 48)) := by
      unfold strings_Repeat.f
      rw [if_pos ⟨rfl, by dsimp only; omega, by dsimp only; omega⟩]; rfl
    rw [if_pos c6, if_pos c6, w1, r1, Option.bind_some, scat_sb _ _ (by rw [List.length_replicate]; omega), Option.bind_some]; rfl
  · have w1 : IntKind.wrap .i64 ((l.length : Int) - (w : Int)) = ((l.length - w : Nat) : Int) := by rw [wrap_id (by omega) (by omega)]; omega
    have s1 := ssub_sb l 0 (l.length - w) (by omega) (by omega)
    rw [List.drop_zero] at s1
    have s2 := ssub_sb l (l.length - w) l.length (by omega) (Nat.le_refl _)
    rw [List.take_of_length_le (Nat.le_refl _)] at s2
    rw [if_neg c6, if_neg c6, w1, show ssub (sb l) 0 ((l.length - w : Nat) : Int) = _ from s1, Option.bind_some, strings_Trim _ (by rw [List.length_take]; omega), Option.bind_some, Int.toNat_natCast]
    by_cases c7 : (l.take (l.length - w)).all (· == 48) = true
    · rw [if_neg (show ¬ ¬ sb (stripB (l.take (l.length - w))) = ByteArray.mk #[] from not_not_intro (by rw [(stripB_nil _).2 c7]; rfl)), if_pos c7, s2, Option.bind_some]
    · rw [if_pos (show ¬ sb (stripB (l.take (l.length - w))) = ByteArray.mk #[] from fun e => c7 ((stripB_nil _).1 (sb_inj (b := []) e))), if_neg c7]; rfl
noncomputable def digits_Pad.c : Con := ⟨109, digits_Pad.sg, digits_Pad.rs, digits_Pad.f⟩
theorem digits_Pad.con : ConOk Tryz.prog digits_Pad.c := walked (C := digits_Pad.C) rfl (by kernel_rfl) (by kernel_rfl) (by kernel_rfl) rfl ⟨digits_All.con, strings_Repeat.con, strings_Trim.con, trivial⟩ fun ⟨s, w⟩ y h => by
  have h : digits_Pad.f (s, w) = some y := h
  obtain ⟨l, rfl⟩ := ex_sb s
  rw [digits_Pad] at h
  exact ⟨0, (digits_Pad.run l w).trans h⟩
end Go.Proofs.YtkaihbkfobiejaaGreatDoor.Xe
