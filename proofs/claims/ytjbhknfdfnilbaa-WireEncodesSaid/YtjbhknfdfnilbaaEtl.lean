/- What the program's readers of tags and sizes answer. -/
import Derived.Test.YtjbhknfdfnilbaaNgc
import Derived.Test.YtjbhknfdfnilbaaXgh
namespace Go.Proofs.Ytjbhknfdfnilbaa.Xe
open Go Go.RowKit Go.Proofs.Ytjbhknfdfnilbaa.Sp
set_option linter.unusedVariables false
set_option linter.unusedSimpArgs false
set_option maxRecDepth 100000
/-! ### tag_first -/
@[reducible] def tag_first.sg : List Shp := [.v (.int .i64)]
@[reducible] def tag_first.rs : Rs := .one (.v (.bool))
@[reducible] noncomputable def tag_first.code : Code := Try.f122.body.getD .skip
noncomputable def tag_first.C : Ctx := ⟨tab, [], [], ⟨[], []⟩⟩
theorem tag_first.eq (n : Nat) (a0 : Int) : call tag_first.C Try.f122 tag_first.code tag_first.sg tag_first.rs n a0 =
  (if a0 > 0 then (if a0 ≤ 255 then (some (decide (bits BinOp.and IntKind.i64 a0 32 = 0)))
   else (some false))
  else (some false)) := by kernel_rfl
noncomputable def tag_first.f : El (sgTy tag_first.sg) → Option (El tag_first.rs.ty) := fun x => match x with
  | a0 =>
  (if a0 > 0 then (if a0 ≤ 255 then (some (decide (bits BinOp.and IntKind.i64 a0 32 = 0)))
   else (some false))
  else (some false))
noncomputable def tag_first.c : Con := ⟨122, tag_first.sg, tag_first.rs, tag_first.f⟩
theorem tag_first.con : ConOk Try.prog tag_first.c := walked (C := tag_first.C) rfl (by kernel_rfl) (by kernel_rfl) (by kernel_rfl) rfl trivial fun a0 y h => ⟨0, (tag_first.eq 0 a0).trans h⟩
/-! ### tag_Right -/
@[reducible] def tag_Right.sg : List Shp := [.v (.int .i64)]
@[reducible] def tag_Right.rs : Rs := .one (.v (.bool))
@[reducible] noncomputable def tag_Right.code : Code := Try.f123.body.getD .skip
noncomputable def tag_Right.C : Ctx := ⟨tab, [tag_first.c], [], ⟨[], []⟩⟩
theorem tag_Right.eq (n : Nat) (a0 : Int) : call tag_Right.C Try.f123 tag_Right.code tag_Right.sg tag_Right.rs n a0 =
  (if a0 ≤ 255 then ((tag_first.f a0).bind fun b0 =>
   (if b0 = true then (some (decide ¬bits BinOp.and IntKind.i64 a0 31 = 31))
   else (some false)))
  else (if a0 ≤ 65535 then ((tag_first.f (Int.fdiv a0 (2 ^ 8))).bind fun b1 =>
    (if b1 = true then (if bits BinOp.and IntKind.i64 (Int.fdiv a0 (2 ^ 8)) 31 = 31 then (if bits BinOp.and IntKind.i64 a0 255 ≥ 1 then (some (decide (bits BinOp.and IntKind.i64 a0 255 ≤ 127)))
      else (some false))
     else (some false))
    else (some false)))
   else (some false))) := by kernel_rfl
noncomputable def tag_Right.f : El (sgTy tag_Right.sg) → Option (El tag_Right.rs.ty) := fun x => match x with
  | a0 =>
  (if a0 ≤ 255 then ((tag_first.f a0).bind fun b0 =>
   (if b0 = true then (some (decide ¬bits BinOp.and IntKind.i64 a0 31 = 31))
   else (some false)))
  else (if a0 ≤ 65535 then ((tag_first.f (Int.fdiv a0 (2 ^ 8))).bind fun b1 =>
    (if b1 = true then (if bits BinOp.and IntKind.i64 (Int.fdiv a0 (2 ^ 8)) 31 = 31 then (if bits BinOp.and IntKind.i64 a0 255 ≥ 1 then (some (decide (bits BinOp.and IntKind.i64 a0 255 ≤ 127)))
      else (some false))
     else (some false))
    else (some false)))
   else (some false)))
noncomputable def tag_Right.c : Con := ⟨123, tag_Right.sg, tag_Right.rs, tag_Right.f⟩
theorem tag_Right.con : ConOk Try.prog tag_Right.c := walked (C := tag_Right.C) rfl (by kernel_rfl) (by kernel_rfl) (by kernel_rfl) rfl ⟨tag_first.con, trivial⟩ fun a0 y h => ⟨0, (tag_Right.eq 0 a0).trans h⟩
theorem tag_first256 : ∀ n : Fin 256, tag_first.f ((n.val : Nat) : Int) = some (decide (tagKind n.val ≠ 0)) ∧ (tagKind n.val ≠ 0 → (Go.bits .and .i64 ((n.val : Nat) : Int) 31 = 31 ↔ tagKind n.val = 2)) := by decide +kernel
theorem tag_Right256 : ∀ n : Fin 256, tagKind n.val = 2 → ∀ b : Fin 256, tag_Right.f ((256 * n.val + b.val : Nat) : Int) = some (decide (1 ≤ b.val ∧ b.val ≤ 127)) := by decide +kernel
theorem wbyte (a : UInt8) : IntKind.wrap .i64 (a.toNat : Int) = (a.toNat : Int) := wrap_nat (by have := u8_lt a; omega)
theorem or_bytes (a b : UInt8) : Go.bits .or .i64 (IntKind.wrap .i64 ((IntKind.wrap .i64 (a.toNat : Int)) * 2 ^ 8)) (IntKind.wrap .i64 (b.toNat : Int)) = ((256 * a.toNat + b.toNat : Nat) : Int) := by
  have h1 := u8_lt a
  rw [wbyte, wbyte, show (a.toNat : Int) * 2 ^ 8 = ((a.toNat * 256 : Nat) : Int) by omega, wrap_nat (by omega), or_join _ _ (u8_lt a) (u8_lt b)]
/-! ### tag_Get -/
@[reducible] def tag_Get.sg : List Shp := [.v (.str), .v (.int .i64)]
@[reducible] def tag_Get.rs : Rs := .tup [.v (.int .i64), .v (.int .i64), .v (.int .i64)]
@[reducible] noncomputable def tag_Get.code : Code := Try.f117.body.getD .skip
noncomputable def tag_Get.C : Ctx := ⟨tab, [tag_first.c, tag_Right.c], [], ⟨[], []⟩⟩
theorem tag_Get.eq (n : Nat) (a0 : ByteArray) (a1 : Int) : call tag_Get.C Try.f117 tag_Get.code tag_Get.sg tag_Get.rs n (a0, a1) =
  (if a1 < 0 then (some ((0, 0, 1)))
  else (if a1 > (↑(ByteArray.size a0) : Int) then (some ((0, 0, 1)))
   else (if a1 = (↑(ByteArray.size a0) : Int) then (some ((0, 0, 2)))
    else ((bget a0 a1).bind fun b0 =>
     ((tag_first.f (IntKind.wrap IntKind.i64 (↑(UInt8.toNat b0) : Int))).bind fun b1 =>
     (if ¬b1 = true then (some ((0, 0, 13)))
     else (if ¬bits BinOp.and IntKind.i64 (IntKind.wrap IntKind.i64 (↑(UInt8.toNat b0) : Int)) 31 = 31 then (some ((IntKind.wrap IntKind.i64 (↑(UInt8.toNat b0) : Int), IntKind.wrap IntKind.i64 (a1 + 1), 0)))
      else (if IntKind.wrap IntKind.i64 (a1 + 1) = (↑(ByteArray.size a0) : Int) then (some ((0, 0, 2)))
       else ((bget a0 (IntKind.wrap IntKind.i64 (a1 + 1))).bind fun b2 =>
        ((tag_Right.f (bits BinOp.or IntKind.i64 (IntKind.wrap IntKind.i64 (IntKind.wrap IntKind.i64 (↑(UInt8.toNat b0) : Int) * 2 ^ 8)) (IntKind.wrap IntKind.i64 (↑(UInt8.toNat b2) : Int)))).bind fun b3 =>
        (if ¬b3 = true then (some ((0, 0, 13)))
        else (some ((bits BinOp.or IntKind.i64 (IntKind.wrap IntKind.i64 (IntKind.wrap IntKind.i64 (↑(UInt8.toNat b0) : Int) * 2 ^ 8)) (IntKind.wrap IntKind.i64 (↑(UInt8.toNat b2) : Int)), IntKind.wrap IntKind.i64 (a1 + 2), 0)))))))))))))) := by kernel_rfl
def tag_Get.f (x : ByteArray × Int) : Option (Int × Int × Int) := if x.1.size ≤ 140737488351232 ∧ 0 ≤ x.2 ∧ x.2 ≤ (x.1.size : Int) then some (tagR x.2.toNat ((bl x.1).drop x.2.toNat)) else none
theorem tag_Get (l : List UInt8) (hl : l.length ≤ 140737488351232) (i : Nat) (hi : i ≤ l.length) : tag_Get.f (sb l, (i : Int)) = some (tagR i (l.drop i)) := by
  unfold tag_Get.f
  rw [if_pos ⟨by rw [size_sb]; exact hl, by omega, by rw [size_sb]; omega⟩, bl_sb, Int.toNat_natCast]
theorem tag_Get.run (l : List UInt8) (hl : l.length ≤ 140737488351232) (i : Nat) (hi : i ≤ l.length) : call tag_Get.C Try.f117 tag_Get.code tag_Get.sg tag_Get.rs 0 (sb l, (i : Int)) = some (tagR i (l.drop i)) := by
  have b1 : ¬ (i : Int) < 0 := by omega
  have b2 : ¬ (i : Int) > (l.length : Int) := by omega
  rw [tag_Get.eq, if_neg b1, size_sb, if_neg b2]
  cases hd : l.drop i with
  | nil =>
    have h : (i : Int) = (l.length : Int) := by have := congrArg List.length hd; rw [List.length_drop] at this; simp at this; omega
    rw [if_pos h]; rfl
  | cons a m =>
    have hlen := len_drop hd
    have b3 : ¬ (i : Int) = (l.length : Int) := by omega
    obtain ⟨f1, f2⟩ := tag_first256 ⟨a.toNat, u8_lt a⟩
    have g1 : IntKind.wrap .i64 ((i : Int) + 1) = ((i + 1 : Nat) : Int) := wrap_succ (by omega)
    have g2 : IntKind.wrap .i64 ((i : Int) + 2) = ((i + 2 : Nat) : Int) := by rw [show (i : Int) + 2 = ((i + 2 : Nat) : Int) by omega]; exact wrap_nat (by omega)
    have c1 : ((i + 1 : Nat) : Int) = (l.length : Int) ↔ m = [] := by
      constructor
      · intro h; exact List.eq_nil_of_length_eq_zero (by omega)
      · intro h; rw [h] at hlen; simp at hlen; omega
    have hdrop : ∀ b m', m = b :: m' → l.drop (i + 1) = b :: m' := by intro b m' e; obtain ⟨-, -, h⟩ := drop_cons hd; rw [h, e]
    rw [if_neg b3, bget_drop hd, Option.bind_some, wbyte, f1, Option.bind_some, g1, g2]
    clear f1
    rcases tagKind_cases a.toNat with h0 | h1 | h2
    · rw [tagR_cons, if_pos h0, if_pos (by simp [h0])]
    · have hne : tagKind a.toNat ≠ 0 := by rw [h1]; decide
      have f3 : ¬ Go.bits .and .i64 (a.toNat : Int) 31 = 31 := by intro h; rw [f2 hne, h1] at h; exact absurd h (by decide)
      rw [tagR_cons, if_neg hne, if_pos h1, if_neg (by simp [hne]), if_pos f3]
    · have hne : tagKind a.toNat ≠ 0 := by rw [h2]; decide
      have f3 : Go.bits .and .i64 (a.toNat : Int) 31 = 31 := (f2 hne).2 h2
      have hn1 : tagKind a.toNat ≠ 1 := by rw [h2]; decide
      rw [tagR_cons, if_neg hne, if_neg hn1, if_neg (by simp [hne]), if_neg (not_not_intro f3)]
      clear f3 f2
      cases m with
      | nil => rw [if_pos (c1.2 rfl)]
      | cons b m' =>
        have hd' := hdrop b m' rfl
        have hlen' := len_drop hd'
        have b6 : ¬ ((i + 1 : Nat) : Int) = (l.length : Int) := by omega
        have f4 := tag_Right256 ⟨a.toNat, u8_lt a⟩ h2 ⟨b.toNat, u8_lt b⟩
        have ob := or_bytes a b
        rw [wbyte] at ob
        rw [if_neg b6, bget_drop hd', Option.bind_some, ob, f4, Option.bind_some]
        by_cases hb : 1 ≤ b.toNat ∧ b.toNat ≤ 127
        · rw [if_neg (by simp [hb])]; simp only [hb, and_self, if_true]
        · rw [if_pos (by simp [hb])]; simp only [hb, if_false]
noncomputable def tag_Get.c : Con := ⟨117, tag_Get.sg, tag_Get.rs, tag_Get.f⟩
theorem tag_Get.con : ConOk Try.prog tag_Get.c := walked (C := tag_Get.C) rfl (by kernel_rfl) (by kernel_rfl) (by kernel_rfl) rfl ⟨tag_first.con, tag_Right.con, trivial⟩ fun ⟨s, i⟩ y h => by
  obtain ⟨l, rfl⟩ := ex_sb s
  have h : tag_Get.f (sb l, i) = some y := h
  unfold tag_Get.f at h
  split at h
  · rename_i hc
    obtain ⟨h1, h2, h3⟩ := hc
    rw [size_sb] at h1 h3
    obtain ⟨n, rfl⟩ : ∃ n : Nat, i = (n : Int) := ⟨Int.toNat i, (Int.toNat_of_nonneg h2).symm⟩
    rw [bl_sb, Int.toNat_natCast] at h
    exact ⟨0, (tag_Get.run l h1 n (by have h3 : (n : Int) ≤ (l.length : Int) := h3; omega)).trans h⟩
  · cases h
/-! ### ber_Size -/
@[reducible] def ber_Size.sg : List Shp := [.v (.int .i64)]
@[reducible] def ber_Size.rs : Rs := .one (.v (.int .i64))
@[reducible] noncomputable def ber_Size.code : Code := Try.f124.body.getD .skip
noncomputable def ber_Size.C : Ctx := ⟨tab, [], [], ⟨[], []⟩⟩
theorem ber_Size.eq (n : Nat) (a0 : Int) : call ber_Size.C Try.f124 ber_Size.code ber_Size.sg ber_Size.rs n a0 =
  (if a0 < 0 then (some 0)
  else (if a0 > 65535 then (some 0)
   else (if a0 > 255 then (some 3)
    else (if a0 > 127 then (some 2)
     else (some 1))))) := by kernel_rfl
noncomputable def ber_Size.f : El (sgTy ber_Size.sg) → Option (El ber_Size.rs.ty) := fun x => match x with
  | a0 =>
  (if a0 < 0 then (some 0)
  else (if a0 > 65535 then (some 0)
   else (if a0 > 255 then (some 3)
    else (if a0 > 127 then (some 2)
     else (some 1)))))
noncomputable def ber_Size.c : Con := ⟨124, ber_Size.sg, ber_Size.rs, ber_Size.f⟩
theorem ber_Size.con : ConOk Try.prog ber_Size.c := walked (C := ber_Size.C) rfl (by kernel_rfl) (by kernel_rfl) (by kernel_rfl) rfl trivial fun a0 y h => ⟨0, (ber_Size.eq 0 a0).trans h⟩
theorem ber_Size1 (n : Nat) (h : n ≤ 127) : ber_Size.f (n : Int) = some 1 := by
  have b1 : ¬ (n : Int) < 0 := by omega
  have b2 : ¬ (n : Int) > 65535 := by omega
  have b3 : ¬ (n : Int) > 255 := by omega
  have b4 : ¬ (n : Int) > 127 := by omega
  simp only [ber_Size.f]
  rw [if_neg b1, if_neg b2, if_neg b3, if_neg b4]
theorem ber_Size2 (n : Nat) (h1 : 127 < n) (h : n ≤ 255) : ber_Size.f (n : Int) = some 2 := by
  have b1 : ¬ (n : Int) < 0 := by omega
  have b2 : ¬ (n : Int) > 65535 := by omega
  have b3 : ¬ (n : Int) > 255 := by omega
  have b4 : (n : Int) > 127 := by omega
  simp only [ber_Size.f]
  rw [if_neg b1, if_neg b2, if_neg b3, if_pos b4]
theorem ber_Size3 (n : Nat) (h1 : 255 < n) (h : n ≤ 65535) : ber_Size.f (n : Int) = some 3 := by
  have b1 : ¬ (n : Int) < 0 := by omega
  have b2 : ¬ (n : Int) > 65535 := by omega
  have b3 : (n : Int) > 255 := by omega
  simp only [ber_Size.f]
  rw [if_neg b1, if_neg b2, if_pos b3]
/-! ### ber_Get -/
@[reducible] def ber_Get.sg : List Shp := [.v (.str), .v (.int .i64)]
@[reducible] def ber_Get.rs : Rs := .tup [.v (.int .i64), .v (.int .i64), .v (.int .i64)]
@[reducible] noncomputable def ber_Get.code : Code := Try.f118.body.getD .skip
noncomputable def ber_Get.C : Ctx := ⟨tab, [ber_Size.c], [], ⟨[(14, [0, 1, 7, 8, 44, 45], 0)], []⟩⟩
noncomputable def ber_Get.l0 (n : Nat) (v0 : ByteArray) (v1 : Int) (v2 : Int) (v3 : Int) (v4 : Int) (v5 : Int) : Option ((Int × (Int × Int))) := run ber_Get.C (finOf ber_Get.C Try.f118 ber_Get.rs) n (todoAt 14 ber_Get.code) ⟨[.str v0, .int .i64 v1, .junk, .junk, .junk, .junk, .junk, .int .i64 v2, .int .i64 v3, .junk, .junk, .junk, .junk, .junk, .junk, .junk, .junk, .junk, .junk, .junk, .junk, .junk, .junk, .junk, .junk, .junk, .junk, .junk, .junk, .junk, .junk, .junk, .junk, .junk, .junk, .junk, .junk, .junk, .junk, .junk, .junk, .junk, .junk, .junk, .int .i64 v4, .int .i64 v5, .junk, .junk, .junk, .junk, .junk, .junk, .junk, .junk, .junk, .junk, .junk, .junk, .junk, .junk, .junk, .junk, .junk, .junk, .junk, .junk, .junk], [], []⟩
-- the loop at region 14
theorem ber_Get.l0_eq (n : Nat) (v0 : ByteArray) (v1 : Int) (v2 : Int) (v3 : Int) (v4 : Int) (v5 : Int) : ber_Get.l0 (n + 1) v0 v1 v2 v3 v4 v5 =
  (if v5 < v4 then ((bget v0 (IntKind.wrap IntKind.i64 (v1 + v5))).bind fun b1 =>
   (ber_Get.l0 n v0 v1 (bits BinOp.or IntKind.i64 (IntKind.wrap IntKind.i64 (v2 * 2 ^ 8)) (IntKind.wrap IntKind.i64 (↑(UInt8.toNat b1) : Int))) v3 v4 (IntKind.wrap IntKind.i64 (v5 + 1))))
  else ((ber_Size.f v2).bind fun b2 =>
   (if ¬b2 = IntKind.wrap IntKind.i64 (v3 + 1) then (some ((0, 0, 14)))
   else (some ((v2, IntKind.wrap IntKind.i64 (v1 + v3), 0)))))) := by kernel_rfl
theorem ber_Get.eq (n : Nat) (a0 : ByteArray) (a1 : Int) : call ber_Get.C Try.f118 ber_Get.code ber_Get.sg ber_Get.rs n (a0, a1) =
  (if a1 < 0 then (some ((0, 0, 1)))
  else (if a1 > (↑(ByteArray.size a0) : Int) then (some ((0, 0, 1)))
   else (if a1 = (↑(ByteArray.size a0) : Int) then (some ((0, 0, 2)))
    else ((bget a0 a1).bind fun b0 =>
     (if IntKind.wrap IntKind.i64 (↑(UInt8.toNat b0) : Int) > 127 then (if IntKind.wrap IntKind.i64 (↑(UInt8.toNat b0) : Int) = 128 then (some ((0, 0, 14)))
      else (if IntKind.wrap IntKind.i64 (↑(UInt8.toNat b0) : Int) > 130 then (some ((0, 0, 14)))
       else (if IntKind.wrap IntKind.i64 ((↑(ByteArray.size a0) : Int) - IntKind.wrap IntKind.i64 (a1 + 1)) < IntKind.wrap IntKind.i64 (IntKind.wrap IntKind.i64 (↑(UInt8.toNat b0) : Int) - 128) then (some ((0, 0, 2)))
        else (ber_Get.l0 n a0 (IntKind.wrap IntKind.i64 (a1 + 1)) 0 (IntKind.wrap IntKind.i64 (IntKind.wrap IntKind.i64 (↑(UInt8.toNat b0) : Int) - 128)) (IntKind.wrap IntKind.i64 (IntKind.wrap IntKind.i64 (↑(UInt8.toNat b0) : Int) - 128)) 0))))
     else (if IntKind.wrap IntKind.i64 ((↑(ByteArray.size a0) : Int) - IntKind.wrap IntKind.i64 (a1 + 1)) < 0 then (some ((0, 0, 2)))
      else (ber_Get.l0 n a0 (IntKind.wrap IntKind.i64 (a1 + 1)) (IntKind.wrap IntKind.i64 (↑(UInt8.toNat b0) : Int)) 0 0 0))))))) := by kernel_rfl
def ber_Get.f (x : ByteArray × Int) : Option (Int × Int × Int) := if x.1.size ≤ 140737488351232 ∧ 0 ≤ x.2 ∧ x.2 ≤ (x.1.size : Int) then some (berR x.2.toNat ((bl x.1).drop x.2.toNat)) else none
theorem ber_Get (l : List UInt8) (hl : l.length ≤ 140737488351232) (i : Nat) (hi : i ≤ l.length) : ber_Get.f (sb l, (i : Int)) = some (berR i (l.drop i)) := by
  unfold ber_Get.f
  rw [if_pos ⟨by rw [size_sb]; exact hl, by omega, by rw [size_sb]; omega⟩, bl_sb, Int.toNat_natCast]
theorem ber_Get.run (l : List UInt8) (hl : l.length ≤ 140737488351232) (i : Nat) (hi : i ≤ l.length) : call ber_Get.C Try.f118 ber_Get.code ber_Get.sg ber_Get.rs 3 (sb l, (i : Int)) = some (berR i (l.drop i)) := by
  have b1 : ¬ (i : Int) < 0 := by omega
  have b2 : ¬ (i : Int) > (l.length : Int) := by omega
  have e28 : (2 : Int) ^ 8 = 256 := by decide
  rw [ber_Get.eq, if_neg b1, size_sb, if_neg b2]
  simp only [wrap_w]
  cases hd : l.drop i with
  | nil =>
    have h : (i : Int) = (l.length : Int) := by have := congrArg List.length hd; rw [List.length_drop] at this; simp at this; omega
    rw [if_pos h]; rfl
  | cons a m =>
    have hlen := len_drop hd
    have ha := u8_lt a
    have b3 : ¬ (i : Int) = (l.length : Int) := by omega
    have b4 : 0 ≤ (i : Int) := by omega
    have b5 : (i : Int) < (l.length : Int) := by omega
    have g1 : wrap64 ((i : Int) + 1) = ((i + 1 : Nat) : Int) := wrap64_succ (by omega)
    have g0 : wrap64 ((l.length : Int) - ((i + 1 : Nat) : Int)) = (m.length : Int) := by rw [show (l.length : Int) - ((i + 1 : Nat) : Int) = ((m.length : Nat) : Int) by omega]; exact wrap64_nat (by omega)
    have hdrop : ∀ b m', m = b :: m' → l.drop (i + 1) = b :: m' := by intro b m' e; obtain ⟨-, -, h⟩ := drop_cons hd; rw [h, e]
    rw [if_neg b3, bget_drop hd, Option.bind_some, wrap_byte, g1, g0, berR]
    by_cases h1 : a.toNat ≤ 127
    · have q1 : ¬ (a.toNat : Int) > 127 := by omega
      have q2 : ¬ (m.length : Int) < 0 := by omega
      have q3 : ¬ (0 : Int) < 0 := by omega
      have q4 : wrap64 (((i + 1 : Nat) : Int) + 0) = ((i + 1 : Nat) : Int) := by rw [Int.add_zero]; exact wrap64_nat (by omega)
      rw [if_pos h1, if_neg q1]
      rw [if_neg q2, ber_Get.l0_eq 2]
      simp only [wrap_w]
      rw [if_neg q3, ber_Size1 _ h1, Option.bind_some, q4, wr1, if_neg (not_not_intro rfl)]
    · have q1 : (a.toNat : Int) > 127 := by omega
      rw [if_neg h1, if_pos q1]
      by_cases h2 : a.toNat = 128 ∨ 130 < a.toNat
      · rw [if_pos h2]
        by_cases q2 : (a.toNat : Int) = 128
        · rw [if_pos q2]
        · have q3 : (a.toNat : Int) > 130 := by omega
          rw [if_neg q2, if_pos q3]
      · have q2 : ¬ (a.toNat : Int) = 128 := by omega
        have q3 : ¬ (a.toNat : Int) > 130 := by omega
        rw [if_neg h2, if_neg q2, if_neg q3]
        have hw : wrap64 ((a.toNat : Int) - 128) = ((a.toNat - 128 : Nat) : Int) := by rw [show (a.toNat : Int) - 128 = ((a.toNat - 128 : Nat) : Int) by omega]; exact wrap64_nat (by omega)
        rw [hw]
        clear hw g0 g1
        by_cases h3 : m.length < a.toNat - 128
        · have q4 : (m.length : Int) < ((a.toNat - 128 : Nat) : Int) := by omega
          rw [if_pos h3, if_pos q4]
        · have q4 : ¬ (m.length : Int) < ((a.toNat - 128 : Nat) : Int) := by omega
          rw [if_neg h3, if_neg q4]
          by_cases h4 : a.toNat = 129
          · rw [if_pos h4, h4]
            rw [h4] at h3
            cases m with
            | nil => simp at h3
            | cons b m' =>
              have hd' := hdrop b m' rfl
              have hlen' := len_drop hd'
              have hb := u8_lt b
              have p0 : wrap64 (((i + 1 : Nat) : Int) + 0) = ((i + 1 : Nat) : Int) := by rw [Int.add_zero]; exact wrap64_nat (by omega)
              have p1 : 0 ≤ ((i + 1 : Nat) : Int) := by omega
              have p2 : ((i + 1 : Nat) : Int) < (l.length : Int) := by omega
              have p3 : wrap64 (((i + 1 : Nat) : Int) + ((129 - 128 : Nat) : Int)) = ((i + 2 : Nat) : Int) := by rw [show ((i + 1 : Nat) : Int) + ((129 - 128 : Nat) : Int) = ((i + 2 : Nat) : Int) by omega]; exact wrap64_nat (by omega)
              rw [ber_Get.l0_eq 2, if_pos (show (0 : Int) < ((129 - 128 : Nat) : Int) by decide)]
              simp only [wrap_w, e28]
              rw [p0, bget_drop hd', Option.bind_some, or_zero, ber_Get.l0_eq 1]
              simp only [wrap_w, e28]
              rw [if_neg (show ¬ wrap64 (0 + 1) < ((129 - 128 : Nat) : Int) by rw [wr1]; decide), p3]
              by_cases h5 : b.toNat ≤ 127
              · rw [ber_Size1 _ h5, Option.bind_some, if_pos (by simp [wrap64])]
                simp [h5]
              · rw [ber_Size2 _ (by omega) (by omega), Option.bind_some, if_neg (by simp [wrap64])]
                simp [h5]
          · have h5 : a.toNat = 130 := by omega
            rw [if_neg h4, h5]
            rw [h5] at h3
            cases m with
            | nil => simp at h3
            | cons b m' =>
              cases m' with
              | nil => simp at h3
              | cons c m'' =>
                have hd' := hdrop b _ rfl
                have hlen' := len_drop hd'
                have hd'' : l.drop (i + 1 + 1) = c :: m'' := by obtain ⟨-, -, h⟩ := drop_cons hd'; exact h
                have hlen'' := len_drop hd''
                have hb := u8_lt b
                have hc := u8_lt c
                have p1 : 0 ≤ ((i + 1 : Nat) : Int) := by omega
                have p2 : ((i + 1 : Nat) : Int) < (l.length : Int) := by omega
                have p5 : 0 ≤ ((i + 1 + 1 : Nat) : Int) := by omega
                have p6 : ((i + 1 + 1 : Nat) : Int) < (l.length : Int) := by omega
                have n1 : i + 1 ≤ 9223372036854775807 := by omega
                have n2 : i + 1 + 1 ≤ 9223372036854775807 := by omega
                have n3 : i + 3 ≤ 9223372036854775807 := by omega
                have e1 : ((i + 1 : Nat) : Int) + 1 = ((i + 1 + 1 : Nat) : Int) := by omega
                have e3 : ((i + 1 : Nat) : Int) + ((130 - 128 : Nat) : Int) = ((i + 3 : Nat) : Int) := by omega
                have p0 : wrap64 (((i + 1 : Nat) : Int) + 0) = ((i + 1 : Nat) : Int) := by rw [Int.add_zero]; exact wrap64_nat n1
                have p4 : wrap64 (((i + 1 : Nat) : Int) + wrap64 (0 + 1)) = ((i + 1 + 1 : Nat) : Int) := by rw [wr1, e1]; exact wrap64_nat n2
                have p3 : wrap64 (((i + 1 : Nat) : Int) + ((130 - 128 : Nat) : Int)) = ((i + 3 : Nat) : Int) := by rw [e3]; exact wrap64_nat n3
                rw [ber_Get.l0_eq 2, if_pos (show (0 : Int) < ((130 - 128 : Nat) : Int) by decide)]
                simp only [wrap_w, e28]
                rw [p0, bget_drop hd', Option.bind_some, or_zero, ber_Get.l0_eq 1]
                simp only [wrap_w, e28]
                rw [if_pos (show wrap64 (0 + 1) < ((130 - 128 : Nat) : Int) by rw [wr1]; decide), p4, bget_drop hd'', Option.bind_some, or_two, ber_Get.l0_eq 0]
                simp only [wrap_w, e28]
                rw [if_neg (show ¬ wrap64 (wrap64 (0 + 1) + 1) < ((130 - 128 : Nat) : Int) by rw [wr1, wr2]; decide), p3]
                clear p0 p4 p3 e1 e3
                by_cases h6 : b.toNat = 0
                · rw [show 256 * b.toNat + c.toNat = c.toNat by omega]
                  by_cases h7 : c.toNat ≤ 127
                  · rw [ber_Size1 _ h7, Option.bind_some, if_pos (by simp [wrap64])]
                    simp [h6]
                  · rw [ber_Size2 _ (by omega) (by omega), Option.bind_some, if_pos (by simp [wrap64])]
                    simp [h6]
                · rw [ber_Size3 _ (by omega) (by omega), Option.bind_some, if_neg (by simp [wrap64])]
                  simp [h6]
noncomputable def ber_Get.c : Con := ⟨118, ber_Get.sg, ber_Get.rs, ber_Get.f⟩
theorem ber_Get.con : ConOk Try.prog ber_Get.c := walked (C := ber_Get.C) rfl (by kernel_rfl) (by kernel_rfl) (by kernel_rfl) rfl ⟨ber_Size.con, trivial⟩ fun ⟨s, i⟩ y h => by
  obtain ⟨l, rfl⟩ := ex_sb s
  have h : ber_Get.f (sb l, i) = some y := h
  unfold ber_Get.f at h
  split at h
  · rename_i hc
    obtain ⟨h1, h2, h3⟩ := hc
    rw [size_sb] at h1 h3
    obtain ⟨n, rfl⟩ : ∃ n : Nat, i = (n : Int) := ⟨Int.toNat i, (Int.toNat_of_nonneg h2).symm⟩
    rw [bl_sb, Int.toNat_natCast] at h
    exact ⟨3, (ber_Get.run l h1 n (by have h3 : (n : Int) ≤ (l.length : Int) := h3; omega)).trans h⟩
  · cases h
end Go.Proofs.Ytjbhknfdfnilbaa.Xe
