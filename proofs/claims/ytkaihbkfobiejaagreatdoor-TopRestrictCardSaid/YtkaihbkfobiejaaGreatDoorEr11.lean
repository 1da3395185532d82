/- What the reference's functions on classes, tags, lengths and specs answer. -/
import Derived.Test.YtkaihbkfobiejaaGreatDoorNgc
import Derived.Test.YtkaihbkfobiejaaGreatDoorEms
namespace Go.Proofs.YtkaihbkfobiejaaGreatDoor.Xe
open Go Go.RowKit Go.Proofs.YtkaihbkfobiejaaGreatDoor.Sp
set_option linter.unusedVariables false
set_option linter.unusedSimpArgs false
set_option maxRecDepth 100000
/-! ### groatref04_Is -/
@[reducible] def groatref04_Is.sg : List Shp := [.v (.int .i64), .v (.int .u8)]
@[reducible] def groatref04_Is.rs : Rs := .one (.v (.bool))
@[reducible] noncomputable def groatref04_Is.code : Code := Tryz.f183.body.getD .skip
noncomputable def groatref04_Is.C : Ctx := ⟨tab, [], [], ⟨[], [(1, [(5, .bool)]), (2, [(6, .bool)]), (11, [(4, .bool)]), (9, [(4, .bool)]), (12, [(4, .bool)])]⟩⟩
theorem groatref04_Is.eq (n : Nat) (a0 : Int) (a1 : Int) : call groatref04_Is.C Tryz.f183 groatref04_Is.code groatref04_Is.sg groatref04_Is.rs n (a0, a1) =
  ((((if a1 ≥ 48 then (some (decide (a1 ≤ 57)))
   else (some false)) : Option Bool)).bind fun b0 =>
  ((((if a1 ≥ 65 then (if a1 ≤ 90 then (some true)
    else (if a1 ≥ 97 then (some (decide (a1 ≤ 122)))
     else (some false)))
   else (if a1 ≥ 97 then (some (decide (a1 ≤ 122)))
    else (some false))) : Option Bool)).bind fun b1 =>
  (if a0 = 1 then (some (decide (b0 = true)))
  else (if a0 = 2 then (some (decide (b1 = true)))
   else (if a0 = 3 then ((((if b0 = true then (some true)
      else (some (decide (b1 = true)))) : Option Bool)).bind fun b2 =>
     (some (decide (b2 = true))))
    else (if a0 = 4 then ((((if a1 ≥ 32 then (some (decide (a1 ≤ 126)))
       else (some false)) : Option Bool)).bind fun b3 =>
      (some (decide (b3 = true))))
     else ((((if a0 = 5 then (some true)
       else (some (decide (a0 = 6)))) : Option Bool)).bind fun b4 =>
      (some (decide (b4 = true)))))))))) := by kernel_rfl
noncomputable def groatref04_Is.f : El (sgTy groatref04_Is.sg) → Option (El groatref04_Is.rs.ty) := fun x => match x with
  | (a0, a1) =>
  ((((if a1 ≥ 48 then (some (decide (a1 ≤ 57)))
   else (some false)) : Option Bool)).bind fun b0 =>
  ((((if a1 ≥ 65 then (if a1 ≤ 90 then (some true)
    else (if a1 ≥ 97 then (some (decide (a1 ≤ 122)))
     else (some false)))
   else (if a1 ≥ 97 then (some (decide (a1 ≤ 122)))
    else (some false))) : Option Bool)).bind fun b1 =>
  (if a0 = 1 then (some (decide (b0 = true)))
  else (if a0 = 2 then (some (decide (b1 = true)))
   else (if a0 = 3 then ((((if b0 = true then (some true)
      else (some (decide (b1 = true)))) : Option Bool)).bind fun b2 =>
     (some (decide (b2 = true))))
    else (if a0 = 4 then ((((if a1 ≥ 32 then (some (decide (a1 ≤ 126)))
       else (some false)) : Option Bool)).bind fun b3 =>
      (some (decide (b3 = true))))
     else ((((if a0 = 5 then (some true)
       else (some (decide (a0 = 6)))) : Option Bool)).bind fun b4 =>
      (some (decide (b4 = true))))))))))
noncomputable def groatref04_Is.c : Con := ⟨183, groatref04_Is.sg, groatref04_Is.rs, groatref04_Is.f⟩
theorem groatref04_Is.con : ConOk Tryz.prog groatref04_Is.c := walked (C := groatref04_Is.C) rfl (by kernel_rfl) (by kernel_rfl) (by kernel_rfl) rfl trivial fun ⟨a0, a1⟩ y h => ⟨0, (groatref04_Is.eq 0 a0 a1).trans h⟩
theorem ref_Is256 : ∀ n : Fin 256, groatref04_Is.f (1, ((n.val : Nat) : Int)) = some (inN 1 ((n.val : Nat) : Int)) ∧ groatref04_Is.f (2, ((n.val : Nat) : Int)) = some (inN 2 ((n.val : Nat) : Int)) ∧ groatref04_Is.f (3, ((n.val : Nat) : Int)) = some (inN 3 ((n.val : Nat) : Int)) ∧ groatref04_Is.f (4, ((n.val : Nat) : Int)) = some (inN 4 ((n.val : Nat) : Int)) ∧ groatref04_Is.f (5, ((n.val : Nat) : Int)) = some (inN 5 ((n.val : Nat) : Int)) ∧ groatref04_Is.f (6, ((n.val : Nat) : Int)) = some (inN 6 ((n.val : Nat) : Int)) := by decide +kernel
theorem bind_const {α β : Type} (x : Option α) (y : Option β) (h : x.isSome = true) : (x.bind fun _ => y) = y := by
  cases x with
  | none => cases h
  | some a => rfl
theorem ref_Is_out {c : Int} (h : ¬ (1 ≤ c ∧ c ≤ 6)) (n : Int) : groatref04_Is.f (c, n) = some false := by
  obtain ⟨h1, h2, h3, h4, h5, h6⟩ := out_class h
  simp only [groatref04_Is.f, if_neg h1, if_neg h2, if_neg h3, if_neg h4, if_neg h5, decide_eq_false h6, Option.bind_some]
  rw [bind_const _ _ (by repeat' split
                         all_goals rfl), bind_const _ _ (by repeat' split
                                                            all_goals rfl)]
  rfl
theorem groatref04_Is (c : Int) (x : UInt8) : groatref04_Is.f (c, (x.toNat : Int)) = some (inC c x) := by
  obtain ⟨p1, p2, p3, p4, p5, p6⟩ := ref_Is256 ⟨x.toNat, u8_lt x⟩
  by_cases h : 1 ≤ c ∧ c ≤ 6
  · rcases in_class h with rfl | rfl | rfl | rfl | rfl | rfl
    · exact p1
    · exact p2
    · exact p3
    · exact p4
    · exact p5
    · exact p6
  · rw [ref_Is_out h, inC, in_out h]
/-! ### groatref04_First -/
@[reducible] def groatref04_First.sg : List Shp := [.v (.int .i64), .v (.str)]
@[reducible] def groatref04_First.rs : Rs := .one (.v (.int .i64))
@[reducible] noncomputable def groatref04_First.code : Code := Tryz.f165.body.getD .skip
noncomputable def groatref04_First.C : Ctx := ⟨tab, [groatref04_Is.c], [], ⟨[(2, [0, 1, 5], 0)], []⟩⟩
noncomputable def groatref04_First.l0 (n : Nat) (v0 : Int) (v1 : ByteArray) (v2 : Int) : Option Int := run groatref04_First.C (finOf groatref04_First.C Tryz.f165 groatref04_First.rs) n (todoAt 2 groatref04_First.code) ⟨[.int .i64 v0, .str v1, .junk, .junk, .junk, .int .i64 v2, .junk, .junk, .junk, .junk, .junk, .junk, .junk, .junk, .junk, .junk, .junk, .junk, .junk], [], []⟩
-- the loop at region 2
theorem groatref04_First.l0_eq (n : Nat) (v0 : Int) (v1 : ByteArray) (v2 : Int) : groatref04_First.l0 (n + 1) v0 v1 v2 =
  (if v2 < (↑(ByteArray.size v1) : Int) then ((bget v1 v2).bind fun b0 =>
   ((groatref04_Is.f (v0, (↑(UInt8.toNat b0) : Int))).bind fun b1 =>
   (if ¬b1 = true then (some v2)
   else (groatref04_First.l0 n v0 v1 (IntKind.wrap IntKind.i64 (v2 + 1))))))
  else (some (-1))) := by kernel_rfl
theorem groatref04_First.eq (n : Nat) (a0 : Int) (a1 : ByteArray) : call groatref04_First.C Tryz.f165 groatref04_First.code groatref04_First.sg groatref04_First.rs n (a0, a1) =
  (groatref04_First.l0 n a0 a1 0) := by kernel_rfl
def groatref04_First.f (x : Int × ByteArray) : Option Int := if x.2.size ≤ 1000000000000 then some (firstFrom (inC x.1) 0 (bl x.2)) else none
theorem groatref04_First (c : Int) (l : List UInt8) (hl : l.length ≤ 1000000000000) : groatref04_First.f (c, sb l) = some (firstFrom (inC c) 0 l) := by
  unfold groatref04_First.f
  rw [if_pos (by rw [size_sb]; exact hl), bl_sb]
theorem groatref04_First_l (c : Int) (l : List UInt8) (hl : l.length ≤ 1000000000000) : ∀ (m : List UInt8) (k i : Nat), l.drop i = m → m.length < k → groatref04_First.l0 k c (sb l) (i : Int) = some (firstFrom (inC c) i m)
  | [], k, i, hd, hk => by
    obtain ⟨k, rfl⟩ : ∃ m, k = m + 1 := ⟨k - 1, by omega⟩
    have := dropn hd
    rw [groatref04_First.l0_eq, if_neg (by rw [size_sb]; omega)]; rfl
  | a :: m, k, i, hd, hk => by
    obtain ⟨k, rfl⟩ : ∃ m, k = m + 1 := ⟨k - 1, by omega⟩
    obtain ⟨h1, h2, h3, -⟩ := dropc hd
    have hk' : m.length < k := by simp at hk; omega
    rw [groatref04_First.l0_eq, if_pos (by rw [size_sb]; omega), bget_drop hd, Option.bind_some, groatref04_Is, Option.bind_some, wrap_succ (by omega), groatref04_First_l c l hl m k (i + 1) h2 hk', firstFrom]
    by_cases hx : inC c a = true
    · rw [if_neg (not_not_intro hx), if_pos hx]
    · rw [if_pos hx, if_neg hx]
noncomputable def groatref04_First.c : Con := ⟨165, groatref04_First.sg, groatref04_First.rs, groatref04_First.f⟩
theorem groatref04_First.con : ConOk Tryz.prog groatref04_First.c := walked (C := groatref04_First.C) rfl (by kernel_rfl) (by kernel_rfl) (by kernel_rfl) rfl ⟨groatref04_Is.con, trivial⟩ fun ⟨c, s⟩ y h => by
  obtain ⟨l, rfl⟩ := ex_sb s
  have h : groatref04_First.f (c, sb l) = some y := h
  unfold groatref04_First.f at h
  split at h
  · rename_i hc
    rw [size_sb] at hc
    exact ⟨l.length + 1, by rw [groatref04_First.eq]; exact (groatref04_First_l c l hc l _ 0 rfl (by omega)).trans h⟩
  · cases h
/-! ### groatref08_First -/
@[reducible] def groatref08_First.sg : List Shp := [.v (.int .u8)]
@[reducible] def groatref08_First.rs : Rs := .one (.v (.int .i64))
@[reducible] noncomputable def groatref08_First.code : Code := Tryz.f195.body.getD .skip
noncomputable def groatref08_First.C : Ctx := ⟨tab, [], [], ⟨[], []⟩⟩
theorem groatref08_First.eq (n : Nat) (a0 : Int) : call groatref08_First.C Tryz.f195 groatref08_First.code groatref08_First.sg groatref08_First.rs n a0 =
  (if a0 = 0 then (some 0)
  else (if Int.tmod (IntKind.wrap IntKind.u8 (Int.tdiv a0 32)) 2 = 1 then (some 0)
   else (if Int.tmod a0 32 = 31 then (some 2)
    else (some 1)))) := by kernel_rfl
noncomputable def groatref08_First.f : El (sgTy groatref08_First.sg) → Option (El groatref08_First.rs.ty) := fun x => match x with
  | a0 =>
  (if a0 = 0 then (some 0)
  else (if Int.tmod (IntKind.wrap IntKind.u8 (Int.tdiv a0 32)) 2 = 1 then (some 0)
   else (if Int.tmod a0 32 = 31 then (some 2)
    else (some 1))))
noncomputable def groatref08_First.c : Con := ⟨195, groatref08_First.sg, groatref08_First.rs, groatref08_First.f⟩
theorem groatref08_First.con : ConOk Tryz.prog groatref08_First.c := walked (C := groatref08_First.C) rfl (by kernel_rfl) (by kernel_rfl) (by kernel_rfl) rfl trivial fun a0 y h => ⟨0, (groatref08_First.eq 0 a0).trans h⟩
theorem ref_first256 : ∀ n : Fin 256, groatref08_First.f ((n.val : Nat) : Int) = some (tagKind n.val) := by decide +kernel
/-! ### groatref08_Get -/
@[reducible] def groatref08_Get.sg : List Shp := [.v (.str), .v (.int .i64)]
@[reducible] def groatref08_Get.rs : Rs := .tup [.v (.int .i64), .v (.int .i64), .v (.int .i64)]
@[reducible] noncomputable def groatref08_Get.code : Code := Tryz.f184.body.getD .skip
noncomputable def groatref08_Get.C : Ctx := ⟨tab, [groatref08_First.c], [], ⟨[], []⟩⟩
theorem groatref08_Get.eq (n : Nat) (a0 : ByteArray) (a1 : Int) : call groatref08_Get.C Tryz.f184 groatref08_Get.code groatref08_Get.sg groatref08_Get.rs n (a0, a1) =
  (if a1 < 0 then (some ((0, 0, 1)))
  else (if a1 > (↑(ByteArray.size a0) : Int) then (some ((0, 0, 1)))
   else (if a1 = (↑(ByteArray.size a0) : Int) then (some ((0, 0, 2)))
    else ((bget a0 a1).bind fun b0 =>
     ((groatref08_First.f (↑(UInt8.toNat b0) : Int)).bind fun b1 =>
     (if b1 = 0 then (some ((0, 0, 13)))
     else (if b1 = 1 then ((bget a0 a1).bind fun b2 =>
       (some ((IntKind.wrap IntKind.i64 (↑(UInt8.toNat b2) : Int), IntKind.wrap IntKind.i64 (a1 + 1), 0))))
      else (if IntKind.wrap IntKind.i64 ((↑(ByteArray.size a0) : Int) - a1) < 2 then (some ((0, 0, 2)))
       else ((bget a0 (IntKind.wrap IntKind.i64 (a1 + 1))).bind fun b3 =>
        (if (↑(UInt8.toNat b3) : Int) = 0 then (some ((0, 0, 13)))
        else ((bget a0 (IntKind.wrap IntKind.i64 (a1 + 1))).bind fun b4 =>
         (if (↑(UInt8.toNat b4) : Int) > 127 then (some ((0, 0, 13)))
         else ((bget a0 a1).bind fun b5 =>
          ((bget a0 (IntKind.wrap IntKind.i64 (a1 + 1))).bind fun b6 =>
          (some ((IntKind.wrap IntKind.i64 (IntKind.wrap IntKind.i64 (256 * IntKind.wrap IntKind.i64 (↑(UInt8.toNat b5) : Int)) + IntKind.wrap IntKind.i64 (↑(UInt8.toNat b6) : Int)), IntKind.wrap IntKind.i64 (a1 + 2), 0))))))))))))))))) := by kernel_rfl
noncomputable def groatref08_Get.f : El (sgTy groatref08_Get.sg) → Option (El groatref08_Get.rs.ty) := fun x => match x with
  | (a0, a1) =>
  (if a1 < 0 then (some ((0, 0, 1)))
  else (if a1 > (↑(ByteArray.size a0) : Int) then (some ((0, 0, 1)))
   else (if a1 = (↑(ByteArray.size a0) : Int) then (some ((0, 0, 2)))
    else ((bget a0 a1).bind fun b0 =>
     ((groatref08_First.f (↑(UInt8.toNat b0) : Int)).bind fun b1 =>
     (if b1 = 0 then (some ((0, 0, 13)))
     else (if b1 = 1 then ((bget a0 a1).bind fun b2 =>
       (some ((IntKind.wrap IntKind.i64 (↑(UInt8.toNat b2) : Int), IntKind.wrap IntKind.i64 (a1 + 1), 0))))
      else (if IntKind.wrap IntKind.i64 ((↑(ByteArray.size a0) : Int) - a1) < 2 then (some ((0, 0, 2)))
       else ((bget a0 (IntKind.wrap IntKind.i64 (a1 + 1))).bind fun b3 =>
        (if (↑(UInt8.toNat b3) : Int) = 0 then (some ((0, 0, 13)))
        else ((bget a0 (IntKind.wrap IntKind.i64 (a1 + 1))).bind fun b4 =>
         (if (↑(UInt8.toNat b4) : Int) > 127 then (some ((0, 0, 13)))
         else ((bget a0 a1).bind fun b5 =>
          ((bget a0 (IntKind.wrap IntKind.i64 (a1 + 1))).bind fun b6 =>
          (some ((IntKind.wrap IntKind.i64 (IntKind.wrap IntKind.i64 (256 * IntKind.wrap IntKind.i64 (↑(UInt8.toNat b5) : Int)) + IntKind.wrap IntKind.i64 (↑(UInt8.toNat b6) : Int)), IntKind.wrap IntKind.i64 (a1 + 2), 0)))))))))))))))))
noncomputable def groatref08_Get.c : Con := ⟨184, groatref08_Get.sg, groatref08_Get.rs, groatref08_Get.f⟩
theorem groatref08_Get.con : ConOk Tryz.prog groatref08_Get.c := walked (C := groatref08_Get.C) rfl (by kernel_rfl) (by kernel_rfl) (by kernel_rfl) rfl ⟨groatref08_First.con, trivial⟩ fun ⟨a0, a1⟩ y h => ⟨0, (groatref08_Get.eq 0 a0 a1).trans h⟩
theorem groatref08_Get (l : List UInt8) (hl : l.length ≤ 1000000000000) (i : Nat) (hi : i ≤ l.length) : groatref08_Get.f (sb l, (i : Int)) = some (tagR i (l.drop i)) := by
  have b1 : ¬ (i : Int) < 0 := by omega
  have b2 : ¬ (i : Int) > (l.length : Int) := by omega
  simp only [groatref08_Get.f, wrap_w]
  rw [if_neg b1, size_sb, if_neg b2]
  cases hd : l.drop i with
  | nil =>
    have h : (i : Int) = (l.length : Int) := by have := congrArg List.length hd; rw [List.length_drop] at this; simp at this; omega
    rw [if_pos h]; rfl
  | cons a m =>
    have hlen := len_drop hd
    have b3 : ¬ (i : Int) = (l.length : Int) := by omega
    have f1 : groatref08_First.f (a.toNat : Int) = some (tagKind a.toNat) := ref_first256 ⟨a.toNat, u8_lt a⟩
    have g0 : wrap64 ((l.length : Int) - (i : Int)) = ((m.length + 1 : Nat) : Int) := by rw [show (l.length : Int) - (i : Int) = ((m.length + 1 : Nat) : Int) by omega]; exact wrap64_nat (by omega)
    have g1 : wrap64 ((i : Int) + 1) = ((i + 1 : Nat) : Int) := wrap64_succ (by omega)
    have g2 : wrap64 ((i : Int) + 2) = ((i + 2 : Nat) : Int) := by rw [show (i : Int) + 2 = ((i + 2 : Nat) : Int) by omega]; exact wrap64_nat (by omega)
    have hdrop : ∀ b m', m = b :: m' → l.drop (i + 1) = b :: m' := by intro b m' e; obtain ⟨-, -, h⟩ := drop_cons hd; rw [h, e]
    rw [if_neg b3, bget_drop hd, Option.bind_some, f1, Option.bind_some, g0, g1, g2]
    clear f1
    rcases tagKind_cases a.toNat with h0 | h1 | h2
    · rw [tagR_cons, if_pos h0, if_pos h0]
    · have hne : tagKind a.toNat ≠ 0 := by rw [h1]; decide
      rw [tagR_cons, if_neg hne, if_pos h1, if_neg hne, if_pos h1, Option.bind_some, wrap_byte]
    · have hne : tagKind a.toNat ≠ 0 := by rw [h2]; decide
      have hn1 : tagKind a.toNat ≠ 1 := by rw [h2]; decide
      rw [tagR_cons, if_neg hne, if_neg hn1, if_neg hne, if_neg hn1]
      cases m with
      | nil => rfl
      | cons b m' =>
        have hd' := hdrop b m' rfl
        have hlen' := len_drop hd'
        have b6 : ¬ (((b :: m').length + 1 : Nat) : Int) < 2 := by simp; omega
        rw [if_neg b6, bget_drop hd', Option.bind_some, Option.bind_some, Option.bind_some, Option.bind_some, wrap_byte, wrap_byte, wrap_256byte]
        by_cases hb : 1 ≤ b.toNat ∧ b.toNat ≤ 127
        · have q1 : ¬ (b.toNat : Int) = 0 := by omega
          have q2 : ¬ (b.toNat : Int) > 127 := by omega
          rw [if_neg q1, if_neg q2]; simp only [hb, and_self, if_true]
        · simp only [hb, if_false]
          by_cases q1 : (b.toNat : Int) = 0
          · rw [if_pos q1]
          · rw [if_neg q1, if_pos (by omega)]
/-! ### groatref09_Get -/
@[reducible] def groatref09_Get.sg : List Shp := [.v (.str), .v (.int .i64)]
@[reducible] def groatref09_Get.rs : Rs := .tup [.v (.int .i64), .v (.int .i64), .v (.int .i64)]
@[reducible] noncomputable def groatref09_Get.code : Code := Tryz.f185.body.getD .skip
noncomputable def groatref09_Get.C : Ctx := ⟨tab, [], [], ⟨[], []⟩⟩
theorem groatref09_Get.eq (n : Nat) (a0 : ByteArray) (a1 : Int) : call groatref09_Get.C Tryz.f185 groatref09_Get.code groatref09_Get.sg groatref09_Get.rs n (a0, a1) =
  (if a1 < 0 then (some ((0, 0, 1)))
  else (if a1 > (↑(ByteArray.size a0) : Int) then (some ((0, 0, 1)))
   else (if a1 = (↑(ByteArray.size a0) : Int) then (some ((0, 0, 2)))
    else ((bget a0 a1).bind fun b0 =>
     (if IntKind.wrap IntKind.i64 (↑(UInt8.toNat b0) : Int) < 128 then (some ((IntKind.wrap IntKind.i64 (↑(UInt8.toNat b0) : Int), IntKind.wrap IntKind.i64 (a1 + 1), 0)))
     else (if ¬IntKind.wrap IntKind.i64 (↑(UInt8.toNat b0) : Int) = 129 then (if ¬IntKind.wrap IntKind.i64 (↑(UInt8.toNat b0) : Int) = 130 then (some ((0, 0, 14)))
       else (if IntKind.wrap IntKind.i64 ((↑(ByteArray.size a0) : Int) - a1) < IntKind.wrap IntKind.i64 (IntKind.wrap IntKind.i64 (↑(UInt8.toNat b0) : Int) - 127) then (some ((0, 0, 2)))
        else (if IntKind.wrap IntKind.i64 (↑(UInt8.toNat b0) : Int) = 129 then ((bget a0 (IntKind.wrap IntKind.i64 (a1 + 1))).bind fun b1 =>
          (if (↑(UInt8.toNat b1) : Int) < 128 then (some ((0, 0, 14)))
          else ((bget a0 (IntKind.wrap IntKind.i64 (a1 + 1))).bind fun b2 =>
           (some ((IntKind.wrap IntKind.i64 (↑(UInt8.toNat b2) : Int), IntKind.wrap IntKind.i64 (a1 + 2), 0))))))
         else ((bget a0 (IntKind.wrap IntKind.i64 (a1 + 1))).bind fun b3 =>
          (if (↑(UInt8.toNat b3) : Int) = 0 then (some ((0, 0, 14)))
          else ((bget a0 (IntKind.wrap IntKind.i64 (a1 + 1))).bind fun b4 =>
           ((bget a0 (IntKind.wrap IntKind.i64 (a1 + 2))).bind fun b5 =>
           (some ((IntKind.wrap IntKind.i64 (IntKind.wrap IntKind.i64 (256 * IntKind.wrap IntKind.i64 (↑(UInt8.toNat b4) : Int)) + IntKind.wrap IntKind.i64 (↑(UInt8.toNat b5) : Int)), IntKind.wrap IntKind.i64 (a1 + 3), 0))))))))))
      else (if IntKind.wrap IntKind.i64 ((↑(ByteArray.size a0) : Int) - a1) < IntKind.wrap IntKind.i64 (IntKind.wrap IntKind.i64 (↑(UInt8.toNat b0) : Int) - 127) then (some ((0, 0, 2)))
       else (if IntKind.wrap IntKind.i64 (↑(UInt8.toNat b0) : Int) = 129 then ((bget a0 (IntKind.wrap IntKind.i64 (a1 + 1))).bind fun b6 =>
         (if (↑(UInt8.toNat b6) : Int) < 128 then (some ((0, 0, 14)))
         else ((bget a0 (IntKind.wrap IntKind.i64 (a1 + 1))).bind fun b7 =>
          (some ((IntKind.wrap IntKind.i64 (↑(UInt8.toNat b7) : Int), IntKind.wrap IntKind.i64 (a1 + 2), 0))))))
        else ((bget a0 (IntKind.wrap IntKind.i64 (a1 + 1))).bind fun b8 =>
         (if (↑(UInt8.toNat b8) : Int) = 0 then (some ((0, 0, 14)))
         else ((bget a0 (IntKind.wrap IntKind.i64 (a1 + 1))).bind fun b9 =>
          ((bget a0 (IntKind.wrap IntKind.i64 (a1 + 2))).bind fun b10 =>
          (some ((IntKind.wrap IntKind.i64 (IntKind.wrap IntKind.i64 (256 * IntKind.wrap IntKind.i64 (↑(UInt8.toNat b9) : Int)) + IntKind.wrap IntKind.i64 (↑(UInt8.toNat b10) : Int)), IntKind.wrap IntKind.i64 (a1 + 3), 0))))))))))))))) := by kernel_rfl
noncomputable def groatref09_Get.f : El (sgTy groatref09_Get.sg) → Option (El groatref09_Get.rs.ty) := fun x => match x with
  | (a0, a1) =>
  (if a1 < 0 then (some ((0, 0, 1)))
  else (if a1 > (↑(ByteArray.size a0) : Int) then (some ((0, 0, 1)))
   else (if a1 = (↑(ByteArray.size a0) : Int) then (some ((0, 0, 2)))
    else ((bget a0 a1).bind fun b0 =>
     (if IntKind.wrap IntKind.i64 (↑(UInt8.toNat b0) : Int) < 128 then (some ((IntKind.wrap IntKind.i64 (↑(UInt8.toNat b0) : Int), IntKind.wrap IntKind.i64 (a1 + 1), 0)))
     else (if ¬IntKind.wrap IntKind.i64 (↑(UInt8.toNat b0) : Int) = 129 then (if ¬IntKind.wrap IntKind.i64 (↑(UInt8.toNat b0) : Int) = 130 then (some ((0, 0, 14)))
       else (if IntKind.wrap IntKind.i64 ((↑(ByteArray.size a0) : Int) - a1) < IntKind.wrap IntKind.i64 (IntKind.wrap IntKind.i64 (↑(UInt8.toNat b0) : Int) - 127) then (some ((0, 0, 2)))
        else (if IntKind.wrap IntKind.i64 (↑(UInt8.toNat b0) : Int) = 129 then ((bget a0 (IntKind.wrap IntKind.i64 (a1 + 1))).bind fun b1 =>
          (if (↑(UInt8.toNat b1) : Int) < 128 then (some ((0, 0, 14)))
          else ((bget a0 (IntKind.wrap IntKind.i64 (a1 + 1))).bind fun b2 =>
           (some ((IntKind.wrap IntKind.i64 (↑(UInt8.toNat b2) : Int), IntKind.wrap IntKind.i64 (a1 + 2), 0))))))
         else ((bget a0 (IntKind.wrap IntKind.i64 (a1 + 1))).bind fun b3 =>
          (if (↑(UInt8.toNat b3) : Int) = 0 then (some ((0, 0, 14)))
          else ((bget a0 (IntKind.wrap IntKind.i64 (a1 + 1))).bind fun b4 =>
           ((bget a0 (IntKind.wrap IntKind.i64 (a1 + 2))).bind fun b5 =>
           (some ((IntKind.wrap IntKind.i64 (IntKind.wrap IntKind.i64 (256 * IntKind.wrap IntKind.i64 (↑(UInt8.toNat b4) : Int)) + IntKind.wrap IntKind.i64 (↑(UInt8.toNat b5) : Int)), IntKind.wrap IntKind.i64 (a1 + 3), 0))))))))))
      else (if IntKind.wrap IntKind.i64 ((↑(ByteArray.size a0) : Int) - a1) < IntKind.wrap IntKind.i64 (IntKind.wrap IntKind.i64 (↑(UInt8.toNat b0) : Int) - 127) then (some ((0, 0, 2)))
       else (if IntKind.wrap IntKind.i64 (↑(UInt8.toNat b0) : Int) = 129 then ((bget a0 (IntKind.wrap IntKind.i64 (a1 + 1))).bind fun b6 =>
         (if (↑(UInt8.toNat b6) : Int) < 128 then (some ((0, 0, 14)))
         else ((bget a0 (IntKind.wrap IntKind.i64 (a1 + 1))).bind fun b7 =>
          (some ((IntKind.wrap IntKind.i64 (↑(UInt8.toNat b7) : Int), IntKind.wrap IntKind.i64 (a1 + 2), 0))))))
        else ((bget a0 (IntKind.wrap IntKind.i64 (a1 + 1))).bind fun b8 =>
         (if (↑(UInt8.toNat b8) : Int) = 0 then (some ((0, 0, 14)))
         else ((bget a0 (IntKind.wrap IntKind.i64 (a1 + 1))).bind fun b9 =>
          ((bget a0 (IntKind.wrap IntKind.i64 (a1 + 2))).bind fun b10 =>
          (some ((IntKind.wrap IntKind.i64 (IntKind.wrap IntKind.i64 (256 * IntKind.wrap IntKind.i64 (↑(UInt8.toNat b9) : Int)) + IntKind.wrap IntKind.i64 (↑(UInt8.toNat b10) : Int)), IntKind.wrap IntKind.i64 (a1 + 3), 0)))))))))))))))
noncomputable def groatref09_Get.c : Con := ⟨185, groatref09_Get.sg, groatref09_Get.rs, groatref09_Get.f⟩
theorem groatref09_Get.con : ConOk Tryz.prog groatref09_Get.c := walked (C := groatref09_Get.C) rfl (by kernel_rfl) (by kernel_rfl) (by kernel_rfl) rfl trivial fun ⟨a0, a1⟩ y h => ⟨0, (groatref09_Get.eq 0 a0 a1).trans h⟩
theorem groatref09_Get (l : List UInt8) (hl : l.length ≤ 1000000000000) (i : Nat) (hi : i ≤ l.length) : groatref09_Get.f (sb l, (i : Int)) = some (berR i (l.drop i)) := by
  have b1 : ¬ (i : Int) < 0 := by omega
  have b2 : ¬ (i : Int) > (l.length : Int) := by omega
  simp only [groatref09_Get.f, wrap_w]
  rw [if_neg b1, size_sb, if_neg b2]
  cases hd : l.drop i with
  | nil =>
    have h : (i : Int) = (l.length : Int) := by have := congrArg List.length hd; rw [List.length_drop] at this; simp at this; omega
    rw [if_pos h]; rfl
  | cons a m =>
    have hlen := len_drop hd
    have ha := u8_lt a
    have b3 : ¬ (i : Int) = (l.length : Int) := by omega
    have g1 : wrap64 ((i : Int) + 1) = ((i + 1 : Nat) : Int) := wrap64_succ (by omega)
    have g0 : wrap64 ((l.length : Int) - (i : Int)) = ((m.length + 1 : Nat) : Int) := by rw [show (l.length : Int) - (i : Int) = ((m.length + 1 : Nat) : Int) by omega]; exact wrap64_nat (by omega)
    have g2 : wrap64 ((i : Int) + 2) = ((i + 2 : Nat) : Int) := by rw [show (i : Int) + 2 = ((i + 2 : Nat) : Int) by omega]; exact wrap64_nat (by omega)
    have g3 : wrap64 ((i : Int) + 3) = ((i + 3 : Nat) : Int) := by rw [show (i : Int) + 3 = ((i + 3 : Nat) : Int) by omega]; exact wrap64_nat (by omega)
    have hdrop : ∀ b m', m = b :: m' → l.drop (i + 1) = b :: m' := by intro b m' e; obtain ⟨-, -, h⟩ := drop_cons hd; rw [h, e]
    rw [if_neg b3, bget_drop hd, Option.bind_some, wrap_byte, g0, g1, g2, g3, berR]
    clear g0 g1 g2 g3
    by_cases h1 : a.toNat ≤ 127
    · have q1 : (a.toNat : Int) < 128 := by omega
      rw [if_pos h1, if_pos q1]
    · have q1 : ¬ (a.toNat : Int) < 128 := by omega
      rw [if_neg h1, if_neg q1]
      by_cases h4 : a.toNat = 129
      · have q2 : (a.toNat : Int) = 129 := by omega
        have h2 : ¬ (a.toNat = 128 ∨ 130 < a.toNat) := by omega
        rw [if_neg h2, if_pos h4, if_neg (not_not_intro q2), h4, if_pos (show ((129 : Nat) : Int) = 129 from rfl)]
        by_cases h3 : m.length < 129 - 128
        · have q4 : ((m.length + 1 : Nat) : Int) < wrap64 (((129 : Nat) : Int) - 127) := by rw [wr129]; omega
          rw [if_pos h3, if_pos q4]
        · have q4 : ¬ ((m.length + 1 : Nat) : Int) < wrap64 (((129 : Nat) : Int) - 127) := by rw [wr129]; omega
          rw [if_neg h3, if_neg q4]
          cases m with
          | nil => simp at h3
          | cons b m' =>
            have hd' := hdrop b m' rfl
            have hlen' := len_drop hd'
            rw [bget_drop hd', Option.bind_some, Option.bind_some, wrap_byte]
            by_cases h5 : b.toNat ≤ 127
            · rw [if_pos (show (b.toNat : Int) < 128 by omega)]; simp [h5]
            · rw [if_neg (show ¬ (b.toNat : Int) < 128 by omega)]; simp [h5]
      · have q2 : ¬ (a.toNat : Int) = 129 := by omega
        rw [if_pos q2]
        by_cases h5 : a.toNat = 130
        · have h2 : ¬ (a.toNat = 128 ∨ 130 < a.toNat) := by omega
          have q3 : (a.toNat : Int) = 130 := by omega
          rw [if_neg h2, if_neg h4, if_neg (not_not_intro q3), h5, if_neg (show ¬ ((130 : Nat) : Int) = 129 by decide)]
          by_cases h3 : m.length < 130 - 128
          · have q4 : ((m.length + 1 : Nat) : Int) < wrap64 (((130 : Nat) : Int) - 127) := by rw [wr130]; omega
            rw [if_pos h3, if_pos q4]
          · have q4 : ¬ ((m.length + 1 : Nat) : Int) < wrap64 (((130 : Nat) : Int) - 127) := by rw [wr130]; omega
            rw [if_neg h3, if_neg q4]
            cases m with
            | nil => simp at h3
            | cons b m' =>
              cases m' with
              | nil => simp at h3
              | cons c m'' =>
                have hd' := hdrop b _ rfl
                have hlen' := len_drop hd'
                have hd'' : l.drop (i + 2) = c :: m'' := by obtain ⟨-, -, h⟩ := drop_cons hd'; exact h
                rw [bget_drop hd', Option.bind_some, Option.bind_some, bget_drop hd'', Option.bind_some, wrap_byte, wrap_byte, wrap_256byte]
                by_cases h6 : b.toNat = 0
                · rw [if_pos (show (b.toNat : Int) = 0 by omega)]; simp [h6]
                · rw [if_neg (show ¬ (b.toNat : Int) = 0 by omega)]; simp [h6]
        · have h2 : a.toNat = 128 ∨ 130 < a.toNat := by omega
          have q3 : ¬ (a.toNat : Int) = 130 := by omega
          rw [if_pos h2, if_pos q3]
/-! ### groatref10_has -/
@[reducible] def groatref10_has.sg : List Shp := [.v (.sl (.pair (.int .i64) (.str))), .v (.int .i64), .v (.int .i64)]
@[reducible] def groatref10_has.rs : Rs := .one (.v (.bool))
@[reducible] noncomputable def groatref10_has.code : Code := Tryz.f186.body.getD .skip
noncomputable def groatref10_has.C : Ctx := ⟨tab, [], [], ⟨[(2, [0, 1, 2, 7], 0)], []⟩⟩
noncomputable def groatref10_has.l0 (n : Nat) (v0 : List ((Int × ByteArray))) (v1 : Int) (v2 : Int) (v3 : Int) : Option Bool := run groatref10_has.C (finOf groatref10_has.C Tryz.f186 groatref10_has.rs) n (todoAt 2 groatref10_has.code) ⟨[.sl none (.pair (.int .i64) (.str)) v0, .int .i64 v1, .int .i64 v2, .junk, .junk, .junk, .junk, .int .i64 v3, .junk, .junk, .junk, .junk, .junk, .junk, .junk, .junk, .junk, .junk, .junk, .junk], [], []⟩
-- the loop at region 2
theorem groatref10_has.l0_eq (n : Nat) (v0 : List ((Int × ByteArray))) (v1 : Int) (v2 : Int) (v3 : Int) : groatref10_has.l0 (n + 1) v0 v1 v2 v3 =
  (if v3 < v1 then ((lget v0 v3).bind fun b0 =>
   (if Prod.fst b0 = v2 then (some true)
   else (groatref10_has.l0 n v0 v1 v2 (IntKind.wrap IntKind.i64 (v3 + 1)))))
  else (some false)) := by kernel_rfl
theorem groatref10_has.eq (n : Nat) (a0 : List ((Int × ByteArray))) (a1 : Int) (a2 : Int) : call groatref10_has.C Tryz.f186 groatref10_has.code groatref10_has.sg groatref10_has.rs n (a0, (a1, a2)) =
  (groatref10_has.l0 n a0 a1 a2 0) := by kernel_rfl
def groatref10_has.f (x : List V × Int × Int) : Option Bool := if x.2.1 = (x.1.length : Int) ∧ x.1.length ≤ 1000000000000 then some (decide (x.2.2 ∈ x.1.map Prod.fst)) else none
theorem groatref10_has (l : List V) (hl : l.length ≤ 1000000000000) (n : Int) : groatref10_has.f (l, (l.length : Int), n) = some (decide (n ∈ l.map Prod.fst)) := if_pos ⟨rfl, hl⟩
theorem groatref10_has_l (l : List V) (hl : l.length ≤ 1000000000000) (n : Int) : ∀ (m : List V) (k i : Nat), l.drop i = m → m.length < k → groatref10_has.l0 k l (l.length : Int) n (i : Int) = some (decide (n ∈ m.map Prod.fst))
  | [], k, i, hd, hk => by
    obtain ⟨k, rfl⟩ : ∃ m, k = m + 1 := ⟨k - 1, by omega⟩
    have := dropn hd
    rw [groatref10_has.l0_eq, if_neg (by omega)]; simp
  | v :: m, k, i, hd, hk => by
    obtain ⟨k, rfl⟩ : ∃ m, k = m + 1 := ⟨k - 1, by omega⟩
    obtain ⟨h1, h2, h3, h4⟩ := dropc hd
    have hk' : m.length < k := by simp at hk; omega
    rw [groatref10_has.l0_eq, if_pos (by omega), h4, Option.bind_some, wrap_succ (by omega), groatref10_has_l l hl n m k (i + 1) h2 hk', List.map_cons]
    by_cases c : v.1 = n
    · rw [if_pos c, decide_eq_true (by rw [c]; exact List.mem_cons_self ..)]
    · rw [if_neg c]
      congr 1
      exact decide_eq_decide.2 (by rw [List.mem_cons]; exact ⟨.inr, fun h => h.elim (fun e => absurd e.symm c) id⟩)
noncomputable def groatref10_has.c : Con := ⟨186, groatref10_has.sg, groatref10_has.rs, groatref10_has.f⟩
theorem groatref10_has.con : ConOk Tryz.prog groatref10_has.c := walked (C := groatref10_has.C) rfl (by kernel_rfl) (by kernel_rfl) (by kernel_rfl) rfl trivial fun ⟨l, q, n⟩ y h => by
  have h : groatref10_has.f (l, q, n) = some y := h
  unfold groatref10_has.f at h
  split at h
  · rename_i hc
    dsimp only at hc h
    obtain ⟨rfl, hc⟩ := hc
    exact ⟨l.length + 1, by rw [groatref10_has.eq]; exact (groatref10_has_l l hc n l _ 0 rfl (by omega)).trans h⟩
  · cases h
/-! ### groatref10_Get -/
@[reducible] def groatref10_Get.sg : List Shp := [.v (.str)]
@[reducible] def groatref10_Get.rs : Rs := .tup [.v (.sl (.pair (.int .i64) (.str))), .v (.int .i64), .v (.int .i64)]
@[reducible] noncomputable def groatref10_Get.code : Code := Tryz.f166.body.getD .skip
noncomputable def groatref10_Get.C : Ctx := ⟨tab, [groatref08_Get.c, groatref09_Get.c, groatref10_has.c], [], ⟨[(3, [0, 5, 6], 0)], []⟩⟩
noncomputable def groatref10_Get.l0 (n : Nat) (v0 : ByteArray) (v1 : List ((Int × ByteArray))) (v2 : Int) : Option ((List ((Int × ByteArray)) × (Int × Int))) := run groatref10_Get.C (finOf groatref10_Get.C Tryz.f166 groatref10_Get.rs) n (todoAt 3 groatref10_Get.code) ⟨[.str v0, .junk, .junk, .junk, .junk, .sl (some 0) (.pair (.int .i64) (.str)) v1, .int .i64 v2, .junk, .junk, .junk, .junk, .junk, .junk, .junk, .junk, .junk, .junk, .junk, .junk, .junk, .junk, .junk, .junk, .junk, .junk, .junk, .junk, .junk, .junk, .junk, .junk, .junk, .junk, .junk, .junk, .junk, .junk, .junk, .junk, .junk, .junk, .junk, .junk, .junk, .junk, .junk, .junk, .junk, .junk, .junk, .junk, .junk, .junk, .junk, .junk, .junk, .junk, .junk, .junk, .junk, .junk, .junk, .junk, .junk, .junk, .junk, .junk, .junk], [], [true]⟩
-- the loop at region 3
theorem groatref10_Get.l0_eq (n : Nat) (v0 : ByteArray) (v1 : List ((Int × ByteArray))) (v2 : Int) : groatref10_Get.l0 (n + 1) v0 v1 v2 =
  (if v2 < (↑(ByteArray.size v0) : Int) then ((groatref08_Get.f (v0, v2)).bind fun b0 =>
   (if ¬Prod.snd (Prod.snd b0) = 0 then (some (([], Prod.snd (Prod.snd b0), v2)))
   else ((groatref09_Get.f (v0, Prod.fst (Prod.snd b0))).bind fun b1 =>
    (if ¬Prod.snd (Prod.snd b1) = 0 then (some (([], Prod.snd (Prod.snd b1), Prod.fst (Prod.snd b0))))
    else (if IntKind.wrap IntKind.i64 ((↑(ByteArray.size v0) : Int) - Prod.fst (Prod.snd b1)) < Prod.fst b1 then (some (([], 2, (↑(ByteArray.size v0) : Int))))
     else ((groatref10_has.f (v1, (↑(List.length v1) : Int), Prod.fst b0)).bind fun b2 =>
      (if b2 = true then (some (([], 10, v2)))
      else ((ssub v0 (Prod.fst (Prod.snd b1)) (IntKind.wrap IntKind.i64 (Prod.fst (Prod.snd b1) + Prod.fst b1))).bind fun b3 =>
       ((lcat 24 v1 [(Prod.fst b0, b3)]).bind fun b4 =>
       (groatref10_Get.l0 n v0 b4 (IntKind.wrap IntKind.i64 (Prod.fst (Prod.snd b1) + Prod.fst b1))))))))))))
  else (some ((v1, 0, 0)))) := by kernel_rfl
theorem groatref10_Get.eq (n : Nat) (a0 : ByteArray) : call groatref10_Get.C Tryz.f166 groatref10_Get.code groatref10_Get.sg groatref10_Get.rs n a0 =
  (groatref10_Get.l0 n a0 [] 0) := by kernel_rfl
def groatref10_Get.f (s : ByteArray) : Option (List V × Int × Int) := if s.size ≤ 1000000000000 then some (tlvG (s.size + 1) (bl s) 0 []) else none
theorem groatref10_Get (l : List UInt8) (hl : l.length ≤ 1000000000000) : groatref10_Get.f (sb l) = some (tlvG (l.length + 1) l 0 []) := by
  unfold groatref10_Get.f
  rw [if_pos (by rw [size_sb]; exact hl), size_sb, bl_sb]
theorem groatref10_Get_l (l : List UInt8) (hl : l.length ≤ 1000000000000) : ∀ (k i : Nat) (o : List V), i ≤ l.length → o.length ≤ i → l.length < k + i →
    groatref10_Get.l0 k (sb l) o (i : Int) = some (tlvG k l i o)
  | 0, i, o, hi, ho, hk => absurd hk (by omega)
  | k + 1, i, o, hi, ho, hk => by
    rw [groatref10_Get.l0_eq, size_sb]
    by_cases c : i < l.length
    · rw [if_pos (by omega), groatref08_Get l hl i hi, Option.bind_some]
      rcases tlvG_step (k := k) (o := o) hl c with ⟨e, he, h1, h2⟩ | ⟨t, n, e, h1, hn, he, h2, h3⟩ | ⟨t, n, z, m, ht, h1, hn, hin, h2, hnm, hm, hz, h3⟩
      · rw [h1, if_pos he, h2]
      · rw [h1, if_neg (by simp)]
        dsimp only
        rw [groatref09_Get l hl n hn, Option.bind_some, h2, if_pos he, h3]
      · rw [h1, if_neg (by simp)]
        dsimp only
        rw [groatref09_Get l hl n hn, Option.bind_some, h2, if_neg (by simp), h3]
        dsimp only
        rw [wrap_id (x := (l.length : Int) - (m : Int)) (by omega) (by omega), show IntKind.wrap .i64 ((m : Int) + (z : Int)) = ((m + z : Nat) : Int) by rw [wrap_id (by omega) (by omega)]; omega]
        by_cases c3 : l.length < m + z
        · rw [if_pos (by omega), if_pos c3]
        · rw [if_neg (by omega), if_neg c3, groatref10_has o (by omega), Option.bind_some]
          by_cases c4 : t ∈ o.map Prod.fst
          · rw [if_pos (decide_eq_true c4), if_pos c4]
          · rw [if_neg (by simpa using c4), if_neg c4, ssub_sb _ _ _ (by omega) (by omega), Option.bind_some, lcat_ok _ _ _ (by simp only [List.length_cons, List.length_nil]; omega), Option.bind_some]
            exact groatref10_Get_l l hl k (m + z) (o ++ [(t, sb ((l.take (m + z)).drop m))]) (by omega) (by rw [List.length_append]; simp only [List.length_cons, List.length_nil]; omega) (by omega)
    · rw [if_neg (by omega), tlvG, if_neg c]
noncomputable def groatref10_Get.c : Con := ⟨166, groatref10_Get.sg, groatref10_Get.rs, groatref10_Get.f⟩
theorem groatref10_Get.con : ConOk Tryz.prog groatref10_Get.c := walked (C := groatref10_Get.C) rfl (by kernel_rfl) (by kernel_rfl) (by kernel_rfl) rfl ⟨groatref08_Get.con, groatref09_Get.con, groatref10_has.con, trivial⟩ fun s y h => by
  obtain ⟨l, rfl⟩ := ex_sb s
  have h : groatref10_Get.f (sb l) = some y := h
  unfold groatref10_Get.f at h
  split at h
  · rename_i hc
    rw [size_sb] at hc
    rw [size_sb, bl_sb] at h
    exact ⟨l.length + 1, by rw [groatref10_Get.eq]; exact (groatref10_Get_l l hc _ 0 [] (Nat.zero_le _) (Nat.le_refl _) (by omega)).trans h⟩
  · cases h
/-! ### groatref11_Check -/
@[reducible] def groatref11_Check.sg : List Shp := [.a (.pair (.int .i64) (.pair (.int .i64) (.pair (.int .i64) (.pair (.int .i64) (.int .i64)))))]
@[reducible] def groatref11_Check.rs : Rs := .one (.v (.int .i64))
@[reducible] noncomputable def groatref11_Check.code : Code := Tryz.f98.body.getD .skip
noncomputable def groatref11_Check.C : Ctx := ⟨tab, [], [], ⟨[], [(1, [(11, .bool)]), (3, [(19, .bool)]), (5, [(27, .bool)]), (10, [(58, .bool)]), (12, [(66, .bool)])]⟩⟩
theorem groatref11_Check.eq (n : Nat) (a0 : Int) (a1 : Int) (a2 : Int) (a3 : Int) (a4 : Int) : call groatref11_Check.C Tryz.f98 groatref11_Check.code groatref11_Check.sg groatref11_Check.rs n (a0, (a1, (a2, (a3, a4)))) =
  ((((if a0 < 2 then (some true)
   else (some (decide (a0 > 128)))) : Option Bool)).bind fun b0 =>
  (if b0 = true then (some 1)
  else ((((if a1 < 1 then (some true)
    else (some (decide (a1 > 6)))) : Option Bool)).bind fun b1 =>
   (if b1 = true then (some 6)
   else ((((if a2 < 1 then (some true)
     else (some (decide (a2 > 3)))) : Option Bool)).bind fun b2 =>
    (if b2 = true then (some 3)
    else (if a2 = 2 then ((((if a3 < 1 then (some true)
       else (if a4 < a3 then (some true)
        else (if a4 > 99 then (some true)
         else (if a2 = 1 then (some (decide ¬a3 = a4))
          else (some false))))) : Option Bool)).bind fun b3 =>
      (if b3 = true then (some 5)
      else ((((if a2 = 1 then (some (decide (a1 = 6)))
        else (some false)) : Option Bool)).bind fun b4 =>
       (if b4 = true then (some 13)
       else (some 0)))))
     else ((((if a3 < 1 then (some true)
       else (if a4 < a3 then (some true)
        else (if a4 > 999 then (some true)
         else (if a2 = 1 then (some (decide ¬a3 = a4))
          else (some false))))) : Option Bool)).bind fun b5 =>
      (if b5 = true then (some 5)
      else ((((if a2 = 1 then (some (decide (a1 = 6)))
        else (some false)) : Option Bool)).bind fun b6 =>
       (if b6 = true then (some 13)
       else (some 0)))))))))))) := by kernel_rfl
noncomputable def groatref11_Check.f : El (sgTy groatref11_Check.sg) → Option (El groatref11_Check.rs.ty) := fun x => match x with
  | (a0, (a1, (a2, (a3, a4)))) =>
  ((((if a0 < 2 then (some true)
   else (some (decide (a0 > 128)))) : Option Bool)).bind fun b0 =>
  (if b0 = true then (some 1)
  else ((((if a1 < 1 then (some true)
    else (some (decide (a1 > 6)))) : Option Bool)).bind fun b1 =>
   (if b1 = true then (some 6)
   else ((((if a2 < 1 then (some true)
     else (some (decide (a2 > 3)))) : Option Bool)).bind fun b2 =>
    (if b2 = true then (some 3)
    else (if a2 = 2 then ((((if a3 < 1 then (some true)
       else (if a4 < a3 then (some true)
        else (if a4 > 99 then (some true)
         else (if a2 = 1 then (some (decide ¬a3 = a4))
          else (some false))))) : Option Bool)).bind fun b3 =>
      (if b3 = true then (some 5)
      else ((((if a2 = 1 then (some (decide (a1 = 6)))
        else (some false)) : Option Bool)).bind fun b4 =>
       (if b4 = true then (some 13)
       else (some 0)))))
     else ((((if a3 < 1 then (some true)
       else (if a4 < a3 then (some true)
        else (if a4 > 999 then (some true)
         else (if a2 = 1 then (some (decide ¬a3 = a4))
          else (some false))))) : Option Bool)).bind fun b5 =>
      (if b5 = true then (some 5)
      else ((((if a2 = 1 then (some (decide (a1 = 6)))
        else (some false)) : Option Bool)).bind fun b6 =>
       (if b6 = true then (some 13)
       else (some 0))))))))))))
noncomputable def groatref11_Check.c : Con := ⟨98, groatref11_Check.sg, groatref11_Check.rs, groatref11_Check.f⟩
theorem groatref11_Check.con : ConOk Tryz.prog groatref11_Check.c := walked (C := groatref11_Check.C) rfl (by kernel_rfl) (by kernel_rfl) (by kernel_rfl) rfl trivial fun ⟨a0, ⟨a1, ⟨a2, ⟨a3, a4⟩⟩⟩⟩ y h => ⟨0, (groatref11_Check.eq 0 a0 a1 a2 a3 a4).trans h⟩
theorem or_two' (p q : Prop) [Decidable p] [Decidable q] : (if p then some true else some (decide q)) = some (decide (p ∨ q)) := by
  by_cases h : p <;> simp [h]
theorem tail_E (fo mi ma w : Int) : (if mi < 1 then some true else if ma < mi then some true else if ma > w then some true else if fo = 1 then some (decide ¬ mi = ma) else some false) = some (decide (mi < 1 ∨ ma < mi ∨ w < ma ∨ (fo = 1 ∧ mi ≠ ma))) := by
  by_cases h1 : mi < 1
  · rw [if_pos h1, decide_eq_true (.inl h1)]
  by_cases h2 : ma < mi
  · rw [if_neg h1, if_pos h2, decide_eq_true (.inr (.inl h2))]
  by_cases h3 : ma > w
  · rw [if_neg h1, if_neg h2, if_pos h3, decide_eq_true (.inr (.inr (.inl h3)))]
  rw [if_neg h1, if_neg h2, if_neg h3]
  by_cases h4 : fo = 1
  · rw [if_pos h4]
    congr 1
    exact decide_eq_decide.2 (by omega)
  · rw [if_neg h4]
    congr 1
    exact (decide_eq_false (by omega)).symm
theorem tail_F (fo c : Int) : (if fo = 1 then some (decide (c = 6)) else some false) = some (decide (fo = 1 ∧ c = 6)) := by
  by_cases h : fo = 1 <;> simp [h]
theorem groatref11_Check (no c fo mi ma : Int) : groatref11_Check.f (no, c, fo, mi, ma) = some (specE no c fo mi ma) := by
  simp only [groatref11_Check.f, or_two', tail_E, tail_F, Option.bind_some, decide_eq_true_eq, specE]
  by_cases h1 : no < 2 ∨ no > 128
  · rw [if_pos h1, if_pos (show no < 2 ∨ 128 < no from h1)]
  rw [if_neg h1, if_neg (show ¬ (no < 2 ∨ 128 < no) from h1)]
  by_cases h2 : c < 1 ∨ c > 6
  · rw [if_pos h2, if_pos (show ¬ (1 ≤ c ∧ c ≤ 6) by omega)]
  rw [if_neg h2, if_neg (show ¬ ¬ (1 ≤ c ∧ c ≤ 6) by omega)]
  by_cases h3 : fo < 1 ∨ fo > 3
  · rw [if_pos h3, if_pos (show ¬ (1 ≤ fo ∧ fo ≤ 3) by omega)]
  rw [if_neg h3, if_neg (show ¬ ¬ (1 ≤ fo ∧ fo ≤ 3) by omega)]
  by_cases h4 : fo = 2
  · simp only [if_pos h4]
    by_cases h5 : mi < 1 ∨ ma < mi ∨ 99 < ma ∨ (fo = 1 ∧ mi ≠ ma)
    · rw [if_pos h5, if_pos h5]
    · rw [if_neg h5, if_neg h5]
      by_cases h6 : fo = 1 ∧ c = 6
      · rw [if_pos h6, if_pos h6]
      · rw [if_neg h6, if_neg h6]
  · simp only [if_neg h4]
    by_cases h5 : mi < 1 ∨ ma < mi ∨ 999 < ma ∨ (fo = 1 ∧ mi ≠ ma)
    · rw [if_pos h5, if_pos h5]
    · rw [if_neg h5, if_neg h5]
      by_cases h6 : fo = 1 ∧ c = 6
      · rw [if_pos h6, if_pos h6]
      · rw [if_neg h6, if_neg h6]
/-! ### groatref11_Value -/
@[reducible] def groatref11_Value.sg : List Shp := [.a (.pair (.int .i64) (.pair (.int .i64) (.pair (.int .i64) (.pair (.int .i64) (.int .i64))))), .v (.str)]
@[reducible] def groatref11_Value.rs : Rs := .one (.v (.int .i64))
@[reducible] noncomputable def groatref11_Value.code : Code := Tryz.f142.body.getD .skip
noncomputable def groatref11_Value.C : Ctx := ⟨tab, [groatref11_Check.c, groatref04_First.c, groatref10_Get.c], [], ⟨[], []⟩⟩
theorem groatref11_Value.eq (n : Nat) (a0 : Int) (a1 : Int) (a2 : Int) (a3 : Int) (a4 : Int) (a5 : ByteArray) : call groatref11_Value.C Tryz.f142 groatref11_Value.code groatref11_Value.sg groatref11_Value.rs n ((a0, (a1, (a2, (a3, a4)))), a5) =
  ((groatref11_Check.f (a0, a1, a2, a3, a4)).bind fun b0 =>
  (if ¬b0 = 0 then (some 1)
  else (if (↑(ByteArray.size a5) : Int) < a3 then (some 5)
   else (if (↑(ByteArray.size a5) : Int) > a4 then (some 5)
    else ((groatref04_First.f (a1, a5)).bind fun b1 =>
     (if b1 ≥ 0 then (some 6)
     else (if a1 = 6 then ((groatref10_Get.f a5).bind fun b2 =>
       (if ¬Prod.fst (Prod.snd b2) = 0 then (some 13)
       else (some 0)))
      else (some 0)))))))) := by kernel_rfl
noncomputable def groatref11_Value.f : El (sgTy groatref11_Value.sg) → Option (El groatref11_Value.rs.ty) := fun x => match x with
  | ((a0, (a1, (a2, (a3, a4)))), a5) =>
  ((groatref11_Check.f (a0, a1, a2, a3, a4)).bind fun b0 =>
  (if ¬b0 = 0 then (some 1)
  else (if (↑(ByteArray.size a5) : Int) < a3 then (some 5)
   else (if (↑(ByteArray.size a5) : Int) > a4 then (some 5)
    else ((groatref04_First.f (a1, a5)).bind fun b1 =>
     (if b1 ≥ 0 then (some 6)
     else (if a1 = 6 then ((groatref10_Get.f a5).bind fun b2 =>
       (if ¬Prod.fst (Prod.snd b2) = 0 then (some 13)
       else (some 0)))
      else (some 0))))))))
noncomputable def groatref11_Value.c : Con := ⟨142, groatref11_Value.sg, groatref11_Value.rs, groatref11_Value.f⟩
theorem groatref11_Value.con : ConOk Tryz.prog groatref11_Value.c := walked (C := groatref11_Value.C) rfl (by kernel_rfl) (by kernel_rfl) (by kernel_rfl) rfl ⟨groatref11_Check.con, groatref04_First.con, groatref10_Get.con, trivial⟩ fun ⟨⟨a0, ⟨a1, ⟨a2, ⟨a3, a4⟩⟩⟩⟩, a5⟩ y h => ⟨0, (groatref11_Value.eq 0 a0 a1 a2 a3 a4 a5).trans h⟩
theorem groatref11_Value (no c fo mi ma : Int) (l : List UInt8) (hl : l.length ≤ 1000000000000) : groatref11_Value.f ((no, c, fo, mi, ma), sb l) = some (specV no c fo mi ma l) := by
  have e : (tlvG (l.length + 1) l 0 []).2.1 = tlvErr l := rfl
  have g := first_ge (inC c) l 0
  simp only [groatref11_Value.f]
  rw [groatref11_Check, Option.bind_some, specV, size_sb]
  by_cases h1 : specE no c fo mi ma = 0
  · rw [if_neg (not_not_intro h1), if_neg (not_not_intro h1)]
    by_cases h2 : (l.length : Int) < mi
    · rw [if_pos h2, if_pos (.inl h2)]
    rw [if_neg h2]
    by_cases h3 : (l.length : Int) > ma
    · rw [if_pos h3, if_pos (.inr h3)]
    rw [if_neg h3, if_neg (show ¬ ((l.length : Int) < mi ∨ ma < (l.length : Int)) by omega), groatref04_First c l hl, Option.bind_some]
    by_cases h4 : l.all (inC c) = false
    · rw [if_pos (g.2 h4), if_pos h4]
    rw [if_neg (fun e => h4 (g.1 e)), if_neg h4]
    by_cases h5 : c = 6
    · rw [if_pos h5, groatref10_Get l hl, Option.bind_some, e]
      by_cases h6 : tlvErr l = 0
      · rw [if_neg (not_not_intro h6), if_neg (fun q => q.2 h6)]
      · rw [if_pos h6, if_pos ⟨h5, h6⟩]
    · rw [if_neg h5, if_neg (fun q => h5 q.1)]
  · rw [if_pos h1, if_pos h1]
end Go.Proofs.YtkaihbkfobiejaaGreatDoor.Xe
