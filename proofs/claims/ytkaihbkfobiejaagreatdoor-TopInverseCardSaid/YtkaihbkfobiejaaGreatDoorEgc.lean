import Derived.Test.YtkaihbkfobiejaaGreatDoorNga
import Derived.Test.YtkaihbkfobiejaaGreatDoorXgh
import Derived.Laws.RangeString
import Derived.Laws.RangeAny
import Derived.Test.YtkaihbkfobiejaaGreatDoorNgb
/- What the program's functions on digits answer. -/
namespace Go.Proofs.YtkaihbkfobiejaaGreatDoor.Xe
open Go Go.RowKit Go.Proofs.YtkaihbkfobiejaaGreatDoor.Sp
set_option linter.unusedVariables false
set_option linter.unusedSimpArgs false
set_option maxRecDepth 100000
theorem decode_dig (l : List UInt8) (i : Nat) (a : UInt8) (m : List UInt8) (hd : l.drop i = a :: m) (h : dig a = true) : Utf8.decode (sb l) i = (a.toNat, 1) := by
  obtain ⟨hlt, ha, -⟩ := drop_cons hd
  have hs : i < (sb l).size := by rw [size_sb]; exact hlt
  have e : (sb l)[i]'hs = a := ha
  have := (dig_iff a).1 h
  rw [decode_ascii _ _ hs (by rw [e]; omega), e]
theorem decode_not (l : List UInt8) (i : Nat) (a : UInt8) (m : List UInt8) (hd : l.drop i = a :: m) (h : dig a = false) : (Utf8.decode (sb l) i).1 < 48 ∨ 57 < (Utf8.decode (sb l) i).1 := by
  obtain ⟨hlt, ha, -⟩ := drop_cons hd
  have hs : i < (sb l).size := by rw [size_sb]; exact hlt
  have e : (sb l)[i]'hs = a := ha
  by_cases hc : a.toNat < 128
  · rw [decode_ascii _ _ hs (by rw [e]; exact hc), e]
    exact (dig_not a).1 h
  · have := decode_high (sb l) i hs (by rw [e]; omega)
    omega
/-! ### digits_All -/
@[reducible] def digits_All.sg : List Shp := [.v (.str)]
@[reducible] def digits_All.rs : Rs := .one (.v (.bool))
@[reducible] noncomputable def digits_All.code : Code := Tryz.f96.body.getD .skip
noncomputable def digits_All.C : Ctx := ⟨tab, [], [], ⟨[(2, [6], 1)], []⟩⟩
noncomputable def digits_All.l0 (n : Nat) (v0 : ByteArray) (v1 : Nat) : Option Bool := run digits_All.C (finOf digits_All.C Tryz.f96 digits_All.rs) n (todoAt 2 digits_All.code) ⟨[.junk, .junk, .junk, .junk, .junk, .junk, .ptr 0 0, .junk, .junk, .junk, .junk, .junk, .junk, .junk, .junk, .junk], [[.itr v0 v1]], []⟩
-- the loop at region 2
theorem digits_All.l0_eq (n : Nat) (v0 : ByteArray) (v1 : Nat) : digits_All.l0 (n + 1) v0 v1 =
  (if v1 < ByteArray.size v0 then (if (↑(Prod.fst (Utf8.decode v0 v1)) : Int) < 48 then (some false)
   else (if (↑(Prod.fst (Utf8.decode v0 v1)) : Int) > 57 then (some false)
    else (digits_All.l0 n v0 (v1 + Prod.snd (Utf8.decode v0 v1)))))
  else (some true)) := by kernel_rfl
theorem digits_All.eq (n : Nat) (a0 : ByteArray) : call digits_All.C Tryz.f96 digits_All.code digits_All.sg digits_All.rs n a0 =
  (digits_All.l0 n a0 0) := by kernel_rfl
def digits_All.f (s : ByteArray) : Option Bool := some ((bl s).all dig)
theorem digits_All (l : List UInt8) : digits_All.f (sb l) = some (l.all dig) := rfl
theorem digits_All_l (l : List UInt8) : ∀ (m : List UInt8) (i k : Nat), l.drop i = m → i + m.length = l.length → m.length < k → digits_All.l0 k (sb l) i = some (m.all dig)
  | [], i, k, hd, hl, hk => by
    obtain ⟨k, rfl⟩ : ∃ m, k = m + 1 := ⟨k - 1, by omega⟩
    simp at hl
    rw [digits_All.l0_eq, if_neg (by rw [size_sb]; omega)]; rfl
  | a :: m, i, k, hd, hl, hk => by
    obtain ⟨k, rfl⟩ : ∃ m, k = m + 1 := ⟨k - 1, by omega⟩
    simp only [List.length_cons] at hl hk
    obtain ⟨hlt, -, hd2⟩ := drop_cons hd
    rw [digits_All.l0_eq, if_pos (by rw [size_sb]; omega), List.all_cons]
    cases h : dig a with
    | true =>
      have hh := (dig_iff a).1 h
      rw [decode_dig l i a m hd h]
      dsimp only
      rw [if_neg (by omega), if_neg (by omega), digits_All_l l m (i + 1) k hd2 (by omega) (by omega), Bool.true_and]
    | false =>
      rcases decode_not l i a m hd h with h1 | h1
      · rw [if_pos (by omega)]; rfl
      · rw [if_neg (by omega), if_pos (by omega)]; rfl
noncomputable def digits_All.c : Con := ⟨96, digits_All.sg, digits_All.rs, digits_All.f⟩
theorem digits_All.con : ConOk Tryz.prog digits_All.c := walked (C := digits_All.C) rfl (by kernel_rfl) (by kernel_rfl) (by kernel_rfl) rfl trivial fun s y h => by
  obtain ⟨l, rfl⟩ := ex_sb s
  exact ⟨l.length + 1, by rw [digits_All.eq]; exact (digits_All_l l l 0 _ rfl (by simp) (by omega)).trans h⟩
end Go.Proofs.YtkaihbkfobiejaaGreatDoor.Xe

/- What the program's reader of decimal digits answers. -/
namespace Go.Proofs.YtkaihbkfobiejaaGreatDoor.Xe
open Go Go.RowKit Go.Proofs.YtkaihbkfobiejaaGreatDoor.Sp
set_option linter.unusedVariables false
set_option linter.unusedSimpArgs false
set_option maxRecDepth 100000
theorem wrap32_nat {n : Nat} (h : n < 1000) : IntKind.wrap .i32 (n : Int) = n := by
  unfold IntKind.wrap
  show (if (true && decide ((n : Int) % 4294967296 ≥ 2147483648)) = true then (n : Int) % 4294967296 - 4294967296 else (n : Int) % 4294967296) = _
  simp only [Bool.true_and, decide_eq_true_eq]
  split <;> omega
/-! ### digits_Get -/
@[reducible] def digits_Get.sg : List Shp := [.v (.str)]
@[reducible] def digits_Get.rs : Rs := .tup [.v (.int .i64), .v (.bool)]
@[reducible] noncomputable def digits_Get.code : Code := Tryz.f130.body.getD .skip
noncomputable def digits_Get.C : Ctx := ⟨tab, [digits_All.c], [], ⟨[(5, [4, 20], 1)], []⟩⟩
noncomputable def digits_Get.l0 (n : Nat) (v0 : Int) (v1 : ByteArray) (v2 : Nat) : Option ((Int × Bool)) := run digits_Get.C (finOf digits_Get.C Tryz.f130 digits_Get.rs) n (todoAt 5 digits_Get.code) ⟨[.junk, .junk, .junk, .junk, .int .i64 v0, .junk, .junk, .junk, .junk, .junk, .junk, .junk, .junk, .junk, .junk, .junk, .junk, .junk, .junk, .junk, .ptr 0 0, .junk, .junk, .junk, .junk, .junk, .junk, .junk, .junk, .junk, .junk], [[.itr v1 v2]], []⟩
-- the loop at region 5
theorem digits_Get.l0_eq (n : Nat) (v0 : Int) (v1 : ByteArray) (v2 : Nat) : digits_Get.l0 (n + 1) v0 v1 v2 =
  (if v2 < ByteArray.size v1 then (digits_Get.l0 n (IntKind.wrap IntKind.i64 (IntKind.wrap IntKind.i64 (10 * v0) + IntKind.wrap IntKind.i64 (IntKind.wrap IntKind.i32 ((↑(Prod.fst (Utf8.decode v1 v2)) : Int) - 48)))) v1 (v2 + Prod.snd (Utf8.decode v1 v2)))
  else (some ((v0, true)))) := by kernel_rfl
theorem digits_Get.eq (n : Nat) (a0 : ByteArray) : call digits_Get.C Tryz.f130 digits_Get.code digits_Get.sg digits_Get.rs n a0 =
  (if a0 = ByteArray.mk #[] then (some ((0, false)))
  else (if (↑(ByteArray.size a0) : Int) > 18 then (some ((0, false)))
   else ((digits_All.f a0).bind fun b0 =>
    (if ¬b0 = true then (some ((0, false)))
    else (digits_Get.l0 n 0 a0 0))))) := by kernel_rfl
def digits_Get.f (s : ByteArray) : Option (Int × Bool) := some (getNum (bl s))
theorem digits_Get (l : List UInt8) : digits_Get.f (sb l) = some (getNum l) := rfl
theorem digits_Get_l (l : List UInt8) (hl : l.length ≤ 18) (hd : l.all dig = true) : ∀ (m : List UInt8) (i k n : Nat), l.drop i = m → i + m.length = l.length → n < 10 ^ i → m.length < k → digits_Get.l0 k (n : Int) (sb l) i = some (((numFrom n m : Nat) : Int), true)
  | [], i, k, n, hm, hi, hn, hk => by
    obtain ⟨k, rfl⟩ : ∃ m, k = m + 1 := ⟨k - 1, by omega⟩
    simp at hi
    rw [digits_Get.l0_eq, if_neg (by rw [size_sb]; omega)]; rfl
  | a :: m, i, k, n, hm, hi, hn, hk => by
    obtain ⟨k, rfl⟩ : ∃ m, k = m + 1 := ⟨k - 1, by omega⟩
    simp only [List.length_cons] at hi hk
    obtain ⟨hlt, ha, hm2⟩ := drop_cons hm
    have da : dig a = true := by rw [← ha]; exact List.all_eq_true.1 hd _ (List.getElem_mem hlt)
    have hh := (dig_iff a).1 da
    have hp : 10 ^ i ≤ 10 ^ 17 := Nat.pow_le_pow_right (by decide) (by omega)
    have hp2 : (10 : Nat) ^ 17 = 100000000000000000 := by decide
    have hs : 10 ^ (i + 1) = 10 ^ i * 10 := Nat.pow_succ ..
    have e1 : IntKind.wrap .i64 (10 * (n : Int)) = ((10 * n : Nat) : Int) := by rw [show 10 * (n : Int) = ((10 * n : Nat) : Int) by omega]; exact wrap_nat (by omega)
    have e2 : IntKind.wrap .i32 ((a.toNat : Int) - 48) = ((a.toNat - 48 : Nat) : Int) := by rw [show (a.toNat : Int) - 48 = ((a.toNat - 48 : Nat) : Int) by omega]; exact wrap32_nat (by omega)
    have e3 : IntKind.wrap .i64 ((a.toNat - 48 : Nat) : Int) = ((a.toNat - 48 : Nat) : Int) := wrap_nat (by omega)
    have e4 : IntKind.wrap .i64 (((10 * n : Nat) : Int) + ((a.toNat - 48 : Nat) : Int)) = ((10 * n + (a.toNat - 48) : Nat) : Int) := by rw [show ((10 * n : Nat) : Int) + ((a.toNat - 48 : Nat) : Int) = ((10 * n + (a.toNat - 48) : Nat) : Int) by omega]; exact wrap_nat (by omega)
    rw [digits_Get.l0_eq, if_pos (by rw [size_sb]; omega), decode_dig l i a m hm da]
    dsimp only
    rw [e1, e2, e3, e4]
    exact digits_Get_l l hl hd m (i + 1) k _ hm2 (by omega) (by omega) (by omega)
theorem digits_Get.run (l : List UInt8) : call digits_Get.C Tryz.f130 digits_Get.code digits_Get.sg digits_Get.rs 20 (sb l) = some (getNum l) := by
  rw [digits_Get.eq]
  unfold getNum
  by_cases h0 : l = []
  · subst h0
    rw [if_pos (show sb [] = ByteArray.mk #[] from rfl), if_pos (.inl (by decide))]
  · have hne : ¬ sb l = ByteArray.mk #[] := fun e => h0 (sb_inj (b := []) e)
    have hlen : 0 < l.length := List.length_pos_iff.2 h0
    rw [if_neg hne]
    by_cases h1 : 18 < l.length
    · rw [if_pos (by rw [size_sb]; omega), if_pos (.inr (.inl h1))]
    · rw [if_neg (by rw [size_sb]; omega), digits_All, Option.bind_some]
      cases hd : l.all dig with
      | false => rw [if_pos (by decide), if_pos (.inr (.inr rfl))]
      | true =>
        have hn : ¬ (l.length < 1 ∨ 18 < l.length ∨ true = false) := by
          rintro (h | h | h)
          · omega
          · omega
          · cases h
        rw [if_neg (by decide), if_neg hn]
        exact digits_Get_l l (by omega) hd l 0 20 0 rfl (by simp) (by decide) (by omega)
noncomputable def digits_Get.c : Con := ⟨130, digits_Get.sg, digits_Get.rs, digits_Get.f⟩
theorem digits_Get.con : ConOk Tryz.prog digits_Get.c := walked (C := digits_Get.C) rfl (by kernel_rfl) (by kernel_rfl) (by kernel_rfl) rfl ⟨digits_All.con, trivial⟩ fun s y h => by
  obtain ⟨l, rfl⟩ := ex_sb s
  exact ⟨20, (digits_Get.run l).trans h⟩
end Go.Proofs.YtkaihbkfobiejaaGreatDoor.Xe

/- What the program's functions on packed digits answer. -/
namespace Go.Proofs.YtkaihbkfobiejaaGreatDoor.Xe
open Go Go.RowKit Go.Proofs.YtkaihbkfobiejaaGreatDoor.Sp
set_option linter.unusedVariables false
set_option linter.unusedSimpArgs false
set_option maxRecDepth 100000
theorem pk100 : ∀ a b : Fin 10, bits BinOp.or IntKind.u8 (IntKind.wrap IntKind.u8 (IntKind.wrap IntKind.u8 (((48 + a.val : Nat) : Int) - 48) * 2 ^ 4)) (IntKind.wrap IntKind.u8 (((48 + b.val : Nat) : Int) - 48)) = ((16 * a.val + b.val : Nat) : Int) := by decide +kernel
theorem pk_dig {a b : UInt8} (ha : dig a = true) (hb : dig b = true) : bits BinOp.or IntKind.u8 (IntKind.wrap IntKind.u8 (IntKind.wrap IntKind.u8 ((a.toNat : Int) - 48) * 2 ^ 4)) (IntKind.wrap IntKind.u8 ((b.toNat : Int) - 48)) = ((16 * (a.toNat - 48) + (b.toNat - 48) : Nat) : Int) := by
  have h1 := (dig_iff a).1 ha
  have h2 := (dig_iff b).1 hb
  have := pk100 ⟨a.toNat - 48, by omega⟩ ⟨b.toNat - 48, by omega⟩
  simp only [show 48 + (a.toNat - 48) = a.toNat by omega, show 48 + (b.toNat - 48) = b.toNat by omega] at this
  exact this
/-! ### bcd_Put -/
@[reducible] def bcd_Put.sg : List Shp := [.v (.str)]
@[reducible] def bcd_Put.rs : Rs := .tup [.v (.str), .v (.bool)]
@[reducible] noncomputable def bcd_Put.code : Code := Tryz.f49.body.getD .skip
noncomputable def bcd_Put.C : Ctx := ⟨tab, [digits_All.c], [], ⟨[(7, [0, 4, 5], 0)], []⟩⟩
noncomputable def bcd_Put.l0 (n : Nat) (v0 : ByteArray) (v1 : List Int) (v2 : Int) : Option ((ByteArray × Bool)) := run bcd_Put.C (finOf bcd_Put.C Tryz.f49 bcd_Put.rs) n (todoAt 7 bcd_Put.code) ⟨[.str v0, .junk, .junk, .junk, .sl (some 0) (.int .u8) v1, .int .i64 v2, .junk, .junk, .junk, .junk, .junk, .junk, .junk, .junk, .junk, .junk, .junk, .junk, .junk, .junk, .junk, .junk, .junk, .junk, .junk, .junk, .junk, .junk, .junk, .junk, .junk, .junk, .junk, .junk, .junk, .junk, .junk, .junk, .junk, .junk, .junk, .junk, .junk, .junk, .junk, .junk], [], [true]⟩
-- the loop at region 7
theorem bcd_Put.l0_eq (n : Nat) (v0 : ByteArray) (v1 : List Int) (v2 : Int) : bcd_Put.l0 (n + 1) v0 v1 v2 =
  (if v2 < (↑(ByteArray.size v0) : Int) then ((bget v0 v2).bind fun b2 =>
   ((bget v0 (IntKind.wrap IntKind.i64 (v2 + 1))).bind fun b3 =>
   ((lcat 1 v1 [bits BinOp.or IntKind.u8 (IntKind.wrap IntKind.u8 (IntKind.wrap IntKind.u8 ((↑(UInt8.toNat b2) : Int) - 48) * 2 ^ 4)) (IntKind.wrap IntKind.u8 ((↑(UInt8.toNat b3) : Int) - 48))]).bind fun b4 =>
   (bcd_Put.l0 n v0 b4 (IntKind.wrap IntKind.i64 (v2 + 2))))))
  else (some ((bytesOf v1, true)))) := by kernel_rfl
theorem bcd_Put.eq (n : Nat) (a0 : ByteArray) : call bcd_Put.C Tryz.f49 bcd_Put.code bcd_Put.sg bcd_Put.rs n a0 =
  (if (↑(ByteArray.size a0) : Int) > 999 then (some ((ByteArray.mk #[], false)))
  else ((digits_All.f a0).bind fun b0 =>
   (if ¬b0 = true then (some ((ByteArray.mk #[], false)))
   else (if ¬Int.tmod (↑(ByteArray.size a0) : Int) 2 = 0 then ((scat (ByteArray.mk #[48]) a0).bind fun b1 =>
     (if (0 : Int) = 0 ∧ 0 ≤ IntKind.wrap IntKind.i64 (Int.tdiv (↑(ByteArray.size b1) : Int) 2) ∧ 1 * IntKind.wrap IntKind.i64 (Int.tdiv (↑(ByteArray.size b1) : Int) 2) ≤ 281474976710656 ∧ IntKind.wrap IntKind.i64 (Int.tdiv (↑(ByteArray.size b1) : Int) 2) ≤ 9223372036854775807 then (bcd_Put.l0 n b1 [] 0)
     else none))
    else (if (0 : Int) = 0 ∧ 0 ≤ IntKind.wrap IntKind.i64 (Int.tdiv (↑(ByteArray.size a0) : Int) 2) ∧ 1 * IntKind.wrap IntKind.i64 (Int.tdiv (↑(ByteArray.size a0) : Int) 2) ≤ 281474976710656 ∧ IntKind.wrap IntKind.i64 (Int.tdiv (↑(ByteArray.size a0) : Int) 2) ≤ 9223372036854775807 then (bcd_Put.l0 n a0 [] 0)
     else none))))) := by kernel_rfl
def bcd_Put.f (s : ByteArray) : Option (ByteArray × Bool) := some (sb (bcdPut (bl s)).1, (bcdPut (bl s)).2)
theorem bcd_Put (l : List UInt8) : bcd_Put.f (sb l) = some (sb (bcdPut l).1, (bcdPut l).2) := rfl
theorem bcd_Put_l (l : List UInt8) (hl : l.length ≤ 2000) (hd : l.all dig = true) : ∀ (m o : List UInt8) (k i : Nat), l.drop i = m → i + m.length = l.length → m.length % 2 = 0 → o.length ≤ i → m.length < k →
    bcd_Put.l0 k (sb l) (ints o) (i : Int) = some (sb (o ++ pack m), true)
  | [], o, k, i, hm, hi, h2, ho, hk => by
    obtain ⟨k, rfl⟩ : ∃ m, k = m + 1 := ⟨k - 1, by omega⟩
    have hi' : i = l.length := by simpa using hi
    rw [bcd_Put.l0_eq, if_neg (by rw [size_sb]; omega), str_ints]; simp [pack]
  | [a], o, k, i, hm, hi, h2, ho, hk => by simp at h2
  | a :: b :: m, o, k, i, hm, hi, h2, ho, hk => by
    obtain ⟨k, rfl⟩ : ∃ m, k = m + 1 := ⟨k - 1, by omega⟩
    obtain ⟨hlt, ha, hm1⟩ := drop_cons hm
    obtain ⟨hlt1, hb, hm2⟩ := drop_cons hm1
    have da : dig a = true := by rw [← ha]; exact List.all_eq_true.1 hd _ (List.getElem_mem hlt)
    have db : dig b = true := by rw [← hb]; exact List.all_eq_true.1 hd _ (List.getElem_mem hlt1)
    have hl3 : m.length + 2 = (a :: b :: m).length := rfl
    have hm4 : m.length % 2 = 0 := by omega
    have hi2 : i + 2 + m.length = l.length := by omega
    have ho2 : o.length + 1 ≤ i + 2 := by omega
    have hk2 : m.length < k := by omega
    have hv := (two_dig da db).1
    rw [bcd_Put.l0_eq, if_pos (by rw [size_sb]; omega), bget_drop hm, Option.bind_some, wrap_succ (by omega), bget_drop hm1, Option.bind_some, pk_dig da db, lcat_ok _ _ _ (by rw [ints_length]; simp only [List.length_cons, List.length_nil]; omega), Option.bind_some, ints_snoc o _ hv, wrap_id (by omega) (by omega)]
    have := bcd_Put_l l hl hd m (o ++ [u8 (16 * (a.toNat - 48) + (b.toNat - 48))]) k (i + 2) hm2 hi2 hm4 (by rw [List.length_append]; exact ho2) hk2
    rw [show (i : Int) + 2 = ((i + 2 : Nat) : Int) from rfl, this, pack]
    simp
theorem bcd_Put_j1 (l : List UInt8) (hl : l.length ≤ 1001) (hd : l.all dig = true) (h2 : l.length % 2 = 0) :
    (if (0 : Int) = 0 ∧ 0 ≤ IntKind.wrap IntKind.i64 (Int.tdiv (↑(ByteArray.size (sb l)) : Int) 2) ∧ 1 * IntKind.wrap IntKind.i64 (Int.tdiv (↑(ByteArray.size (sb l)) : Int) 2) ≤ 281474976710656 ∧ IntKind.wrap IntKind.i64 (Int.tdiv (↑(ByteArray.size (sb l)) : Int) 2) ≤ 9223372036854775807 then (bcd_Put.l0 1002 (sb l) [] 0) else none) = some (sb (pack l), true) := by
  have t1 : Int.tdiv (l.length : Int) 2 = ((l.length / 2 : Nat) : Int) := tdiv_nat l.length 2
  rw [size_sb, t1, wrap_nat (by omega), if_pos ⟨rfl, by omega, by omega, by omega⟩]
  exact bcd_Put_l l (by omega) hd l [] _ 0 rfl (by simp) h2 (Nat.le_refl _) (by omega)
theorem bcd_Put.run (l : List UInt8) : call bcd_Put.C Tryz.f49 bcd_Put.code bcd_Put.sg bcd_Put.rs 1002 (sb l) = some (sb (bcdPut l).1, (bcdPut l).2) := by
  rw [bcd_Put.eq]
  unfold bcdPut
  by_cases h1 : 999 < l.length
  · rw [if_pos (by rw [size_sb]; omega), if_pos (.inl h1)]; rfl
  · rw [if_neg (by rw [size_sb]; omega), digits_All, Option.bind_some]
    cases hd : l.all dig with
    | false => rw [if_pos (by decide), if_pos (.inr rfl)]; rfl
    | true =>
      have t2 : Int.tmod (l.length : Int) 2 = ((l.length % 2 : Nat) : Int) := tmod_nat l.length 2
      have hn : ¬ (999 < l.length ∨ true = false) := by simp; omega
      rw [if_neg (by decide), if_neg hn]
      by_cases h2 : l.length % 2 = 0
      · have e : even0 l = l := if_pos h2
        rw [if_neg (by rw [size_sb, t2]; omega), e]
        exact bcd_Put_j1 l (by omega) hd h2
      · have e : even0 l = u8 48 :: l := if_neg h2
        rw [if_pos (by rw [size_sb, t2]; omega), e, show (ByteArray.mk #[48]) = sb [u8 48] from rfl, scat_sb _ _ (by simp; omega), Option.bind_some]
        exact bcd_Put_j1 (u8 48 :: l) (by simp; omega) (by rw [List.all_cons, hd]; decide) (by rw [List.length_cons]; omega)
noncomputable def bcd_Put.c : Con := ⟨49, bcd_Put.sg, bcd_Put.rs, bcd_Put.f⟩
theorem bcd_Put.con : ConOk Tryz.prog bcd_Put.c := walked (C := bcd_Put.C) rfl (by kernel_rfl) (by kernel_rfl) (by kernel_rfl) rfl ⟨digits_All.con, trivial⟩ fun s y h => by
  obtain ⟨l, rfl⟩ := ex_sb s
  exact ⟨1002, (bcd_Put.run l).trans h⟩
/-! ### bcd_Size -/
@[reducible] def bcd_Size.sg : List Shp := [.v (.int .i64)]
@[reducible] def bcd_Size.rs : Rs := .one (.v (.int .i64))
@[reducible] noncomputable def bcd_Size.code : Code := Tryz.f92.body.getD .skip
noncomputable def bcd_Size.C : Ctx := ⟨tab, [], [], ⟨[], []⟩⟩
theorem bcd_Size.eq (n : Nat) (a0 : Int) : call bcd_Size.C Tryz.f92 bcd_Size.code bcd_Size.sg bcd_Size.rs n a0 =
  (if a0 < 1 then (some 0)
  else (some (IntKind.wrap IntKind.i64 (IntKind.wrap IntKind.i64 (Int.tdiv a0 2) + Int.tmod a0 2)))) := by kernel_rfl
noncomputable def bcd_Size.f : El (sgTy bcd_Size.sg) → Option (El bcd_Size.rs.ty) := fun x => match x with
  | a0 =>
  (if a0 < 1 then (some 0)
  else (some (IntKind.wrap IntKind.i64 (IntKind.wrap IntKind.i64 (Int.tdiv a0 2) + Int.tmod a0 2))))
noncomputable def bcd_Size.c : Con := ⟨92, bcd_Size.sg, bcd_Size.rs, bcd_Size.f⟩
theorem bcd_Size.con : ConOk Tryz.prog bcd_Size.c := walked (C := bcd_Size.C) rfl (by kernel_rfl) (by kernel_rfl) (by kernel_rfl) rfl trivial fun a0 y h => ⟨0, (bcd_Size.eq 0 a0).trans h⟩
theorem bcd_Size (n : Nat) (hn : n ≤ 1000000) : bcd_Size.f (n : Int) = some (((n + 1) / 2 : Nat) : Int) := by
  show (if (n : Int) < 1 then some 0 else some (IntKind.wrap IntKind.i64 (IntKind.wrap IntKind.i64 (Int.tdiv (n : Int) 2) + Int.tmod (n : Int) 2))) = _
  by_cases h : n < 1
  · rw [if_pos (by omega)]
    have : n = 0 := by omega
    subst this; rfl
  · have t1 : Int.tdiv (n : Int) 2 = ((n / 2 : Nat) : Int) := tdiv_nat n 2
    have t2 : Int.tmod (n : Int) 2 = ((n % 2 : Nat) : Int) := tmod_nat n 2
    rw [if_neg (by omega), t1, t2, wrap_nat (by omega), wrap_id (by omega) (by omega)]
    congr 1; omega
end Go.Proofs.YtkaihbkfobiejaaGreatDoor.Xe

/- What the program's bcd.Get answers. -/
namespace Go.Proofs.YtkaihbkfobiejaaGreatDoor.Xe
open Go Go.RowKit Go.Proofs.YtkaihbkfobiejaaGreatDoor.Sp
set_option linter.unusedVariables false
set_option linter.unusedSimpArgs false
set_option maxRecDepth 100000
theorem nb256 : ∀ n : Fin 256, Int.fdiv ((n.val : Nat) : Int) (2 ^ 4) = ((n.val / 16 : Nat) : Int) ∧ bits BinOp.and IntKind.u8 ((n.val : Nat) : Int) 15 = ((n.val % 16 : Nat) : Int) ∧ IntKind.wrap IntKind.u8 (48 + ((n.val / 16 : Nat) : Int)) = ((48 + n.val / 16 : Nat) : Int) ∧ IntKind.wrap IntKind.u8 (48 + ((n.val % 16 : Nat) : Int)) = ((48 + n.val % 16 : Nat) : Int) := by decide +kernel
/-! ### bcd_Get -/
@[reducible] def bcd_Get.sg : List Shp := [.v (.str), .v (.int .i64)]
@[reducible] def bcd_Get.rs : Rs := .tup [.v (.str), .v (.int .i64), .v (.int .i64)]
@[reducible] noncomputable def bcd_Get.code : Code := Tryz.f93.body.getD .skip
noncomputable def bcd_Get.C : Ctx := ⟨tab, [bcd_Size.c], [], ⟨[(7, [0, 1, 7, 30, 31], 0)], []⟩⟩
noncomputable def bcd_Get.l0 (n : Nat) (v0 : ByteArray) (v1 : Int) (v2 : List Int) (v3 : Int) (v4 : Int) : Option ((ByteArray × (Int × Int))) := run bcd_Get.C (finOf bcd_Get.C Tryz.f93 bcd_Get.rs) n (todoAt 7 bcd_Get.code) ⟨[.str v0, .int .i64 v1, .junk, .junk, .junk, .junk, .junk, .sl (some 0) (.int .u8) v2, .junk, .junk, .junk, .junk, .junk, .junk, .junk, .junk, .junk, .junk, .junk, .junk, .junk, .junk, .junk, .junk, .junk, .junk, .junk, .junk, .junk, .junk, .int .i64 v3, .int .i64 v4, .junk, .junk, .junk, .junk, .junk, .junk, .junk, .junk, .junk, .junk, .junk, .junk, .junk, .junk, .junk, .junk, .junk, .junk, .junk, .junk, .junk, .junk, .junk, .junk, .junk, .junk, .junk, .junk, .junk, .junk, .junk, .junk, .junk, .junk, .junk, .junk, .junk, .junk, .junk, .junk, .junk, .junk, .junk], [], [true]⟩
-- the loop at region 7
theorem bcd_Get.l0_eq (n : Nat) (v0 : ByteArray) (v1 : Int) (v2 : List Int) (v3 : Int) (v4 : Int) : bcd_Get.l0 (n + 1) v0 v1 v2 v3 v4 =
  (if v4 < v3 then ((bget v0 v4).bind fun b2 =>
   ((bget v0 v4).bind fun b3 =>
   (if v4 = 0 then (if ¬Int.tmod v1 2 = 0 then (if ¬Int.fdiv (↑(UInt8.toNat b2) : Int) (2 ^ 4) = 0 then (some ((ByteArray.mk #[], 4, 0)))
     else (if Int.fdiv (↑(UInt8.toNat b2) : Int) (2 ^ 4) > 9 then (some ((ByteArray.mk #[], 3, v4)))
      else (if bits BinOp.and IntKind.u8 (↑(UInt8.toNat b3) : Int) 15 > 9 then (some ((ByteArray.mk #[], 3, v4)))
       else ((lcat 1 v2 [IntKind.wrap IntKind.u8 (48 + Int.fdiv (↑(UInt8.toNat b2) : Int) (2 ^ 4)), IntKind.wrap IntKind.u8 (48 + bits BinOp.and IntKind.u8 (↑(UInt8.toNat b3) : Int) 15)]).bind fun b4 =>
        (bcd_Get.l0 n v0 v1 b4 v3 (IntKind.wrap IntKind.i64 (v4 + 1)))))))
    else (if Int.fdiv (↑(UInt8.toNat b2) : Int) (2 ^ 4) > 9 then (some ((ByteArray.mk #[], 3, v4)))
     else (if bits BinOp.and IntKind.u8 (↑(UInt8.toNat b3) : Int) 15 > 9 then (some ((ByteArray.mk #[], 3, v4)))
      else ((lcat 1 v2 [IntKind.wrap IntKind.u8 (48 + Int.fdiv (↑(UInt8.toNat b2) : Int) (2 ^ 4)), IntKind.wrap IntKind.u8 (48 + bits BinOp.and IntKind.u8 (↑(UInt8.toNat b3) : Int) 15)]).bind fun b5 =>
       (bcd_Get.l0 n v0 v1 b5 v3 (IntKind.wrap IntKind.i64 (v4 + 1)))))))
   else (if Int.fdiv (↑(UInt8.toNat b2) : Int) (2 ^ 4) > 9 then (some ((ByteArray.mk #[], 3, v4)))
    else (if bits BinOp.and IntKind.u8 (↑(UInt8.toNat b3) : Int) 15 > 9 then (some ((ByteArray.mk #[], 3, v4)))
     else ((lcat 1 v2 [IntKind.wrap IntKind.u8 (48 + Int.fdiv (↑(UInt8.toNat b2) : Int) (2 ^ 4)), IntKind.wrap IntKind.u8 (48 + bits BinOp.and IntKind.u8 (↑(UInt8.toNat b3) : Int) 15)]).bind fun b6 =>
      (bcd_Get.l0 n v0 v1 b6 v3 (IntKind.wrap IntKind.i64 (v4 + 1)))))))))
  else ((lsub v2 (Int.tmod v1 2) (↑(List.length v2) : Int)).bind fun b7 =>
   (some ((bytesOf b7, 0, 0))))) := by kernel_rfl
theorem bcd_Get.eq (n : Nat) (a0 : ByteArray) (a1 : Int) : call bcd_Get.C Tryz.f93 bcd_Get.code bcd_Get.sg bcd_Get.rs n (a0, a1) =
  (if a1 < 0 then (some ((ByteArray.mk #[], 1, 0)))
  else (if a1 > 999 then (some ((ByteArray.mk #[], 1, 0)))
   else ((bcd_Size.f a1).bind fun b0 =>
    (if (↑(ByteArray.size a0) : Int) < b0 then (some ((ByteArray.mk #[], 2, (↑(ByteArray.size a0) : Int))))
    else (if (0 : Int) = 0 ∧ 0 ≤ IntKind.wrap IntKind.i64 (a1 + 1) ∧ 1 * IntKind.wrap IntKind.i64 (a1 + 1) ≤ 281474976710656 ∧ IntKind.wrap IntKind.i64 (a1 + 1) ≤ 9223372036854775807 then ((bcd_Size.f a1).bind fun b1 =>
      (bcd_Get.l0 n a0 a1 [] b1 0))
     else none))))) := by kernel_rfl
def bcd_Get.f (x : ByteArray × Int) : Option (ByteArray × Int × Int) := some (sb (bcdGet (bl x.1) x.2).1, (bcdGet (bl x.1) x.2).2.1, (bcdGet (bl x.1) x.2).2.2)
theorem bcd_Get (b : List UInt8) (n : Int) : bcd_Get.f (sb b, n) = some (sb (bcdGet b n).1, (bcdGet b n).2.1, (bcdGet b n).2.2) := rfl
theorem bcd_Get_l (b : List UInt8) (n : Nat) (hn : n ≤ 999) (hb : (n + 1) / 2 ≤ b.length) : ∀ (m o : List UInt8) (k i : Nat), (b.take ((n + 1) / 2)).drop i = m → i + m.length = (n + 1) / 2 → o.length = 2 * i → m.length < k →
    bcd_Get.l0 k (sb b) (n : Int) (ints o) (((n + 1) / 2 : Nat) : Int) (i : Int) = some (sb (bcdFrom (decide (n % 2 = 1)) i o m).1, (bcdFrom (decide (n % 2 = 1)) i o m).2.1, (bcdFrom (decide (n % 2 = 1)) i o m).2.2)
  | [], o, k, i, hm, hi, ho, hk => by
    obtain ⟨k, rfl⟩ : ∃ m, k = m + 1 := ⟨k - 1, by omega⟩
    have hi' : i = (n + 1) / 2 := by simpa using hi
    have t2 : Int.tmod (n : Int) 2 = ((n % 2 : Nat) : Int) := tmod_nat n 2
    have hs : lsub (ints o) ((n % 2 : Nat) : Int) ((ints o).length : Int) = some ((ints o).drop (n % 2)) := by
      unfold lsub
      rw [if_pos ⟨by omega, by rw [ints_length]; omega, Int.le_refl _⟩, Int.toNat_natCast, Int.toNat_natCast, List.take_length]
    rw [bcd_Get.l0_eq, if_neg (by omega), t2, hs, Option.bind_some, ints_drop, str_ints, bcdFrom]
    by_cases h : n % 2 = 1
    · rw [h]; rfl
    · rw [show n % 2 = 0 by omega]; rfl
  | c :: m, o, k, i, hm, hi, ho, hk => by
    obtain ⟨k, rfl⟩ : ∃ m, k = m + 1 := ⟨k - 1, by omega⟩
    rw [List.length_cons] at hi hk
    obtain ⟨hlt, hc, hm1⟩ := drop_cons hm
    have hmb : b.drop i = c :: b.drop (i + 1) := by
      have hlt2 : i < b.length := by rw [List.length_take] at hlt; omega
      rw [List.drop_eq_getElem_cons hlt2]
      rw [List.getElem_take] at hc; rw [hc]
    have hi2 : i + 1 + m.length = (n + 1) / 2 := by omega
    have ho2 : o.length + 2 = 2 * (i + 1) := by omega
    have hcl := u8_lt c
    obtain ⟨g1, g2, g3, g4⟩ := nb256 ⟨c.toNat, u8_lt c⟩
    simp only at g1 g2 g3 g4
    have t2 : Int.tmod (n : Int) 2 = ((n % 2 : Nat) : Int) := tmod_nat n 2
    have ih := bcd_Get_l b n hn hb m (o ++ [u8 (48 + c.toNat / 16), u8 (48 + c.toNat % 16)]) k (i + 1) hm1 hi2 (by rw [List.length_append]; exact ho2) (by omega)
    have tail : ¬ (i = 0 ∧ decide (n % 2 = 1) = true ∧ c.toNat / 16 ≠ 0) → (if ((c.toNat / 16 : Nat) : Int) > 9 then (some ((ByteArray.mk #[], 3, (i : Int)))) else (if ((c.toNat % 16 : Nat) : Int) > 9 then (some ((ByteArray.mk #[], 3, (i : Int)))) else ((lcat 1 (ints o) [((48 + c.toNat / 16 : Nat) : Int), ((48 + c.toNat % 16 : Nat) : Int)]).bind fun b5 => (bcd_Get.l0 k (sb b) (n : Int) b5 (((n + 1) / 2 : Nat) : Int) (IntKind.wrap IntKind.i64 ((i : Int) + 1)))))) = some (sb (bcdFrom (decide (n % 2 = 1)) i o (c :: m)).1, (bcdFrom (decide (n % 2 = 1)) i o (c :: m)).2.1, (bcdFrom (decide (n % 2 = 1)) i o (c :: m)).2.2) := by
      intro hne
      rw [bcdFrom, if_neg hne]
      by_cases h1 : 9 < c.toNat / 16
      · rw [if_pos (by omega), if_pos (.inl h1)]; rfl
      · rw [if_neg (by omega)]
        by_cases h2 : 9 < c.toNat % 16
        · rw [if_pos (by omega), if_pos (.inr h2)]; rfl
        · rw [if_neg (by omega), if_neg (by omega), lcat_ok _ _ _ (by rw [ints_length]; simp only [List.length_cons, List.length_nil]; omega), Option.bind_some, ints_two o _ _ (by omega) (by omega), wrap_succ (by omega)]
          exact ih
    rw [bcd_Get.l0_eq, if_pos (by omega), bget_drop hmb, Option.bind_some, Option.bind_some, g1, g2, g3, g4, t2]
    by_cases h1 : i = 0
    · rw [if_pos (by omega)]
      by_cases h2 : n % 2 = 1
      · rw [if_pos (by omega)]
        by_cases h3 : c.toNat / 16 = 0
        · rw [if_neg (by omega)]
          exact tail (fun h => h.2.2 h3)
        · rw [if_pos (by omega), bcdFrom, if_pos ⟨h1, decide_eq_true h2, h3⟩]; rfl
      · rw [if_neg (by omega)]
        exact tail (fun h => h2 (of_decide_eq_true h.2.1))
    · rw [if_neg (by omega)]
      exact tail (fun h => h1 h.1)
theorem bcd_Get.run (b : List UInt8) (n : Int) : call bcd_Get.C Tryz.f93 bcd_Get.code bcd_Get.sg bcd_Get.rs 502 (sb b, n) = some (sb (bcdGet b n).1, (bcdGet b n).2.1, (bcdGet b n).2.2) := by
  rw [bcd_Get.eq]
  unfold bcdGet
  by_cases h1 : n < 0
  · rw [if_pos h1, if_pos (.inl h1)]; rfl
  · rw [if_neg h1]
    by_cases h2 : 999 < n
    · rw [if_pos h2, if_pos (.inr h2)]; rfl
    · obtain ⟨v, rfl⟩ := Int.eq_ofNat_of_zero_le (show 0 ≤ n by omega)
      have hn2 : ¬ ((v : Int) < 0 ∨ 999 < (v : Int)) := by omega
      rw [if_neg h2, if_neg hn2, Int.toNat_natCast, bcd_Size v (by omega), Option.bind_some, Option.bind_some, size_sb]
      by_cases h3 : b.length < (v + 1) / 2
      · rw [if_pos (by omega), if_pos h3]; rfl
      · rw [if_neg (by omega), if_neg h3, wrap_succ (by omega), if_pos ⟨rfl, by omega, by omega, by omega⟩]
        exact bcd_Get_l b v (by omega) (by omega) _ [] _ 0 rfl (by rw [List.length_take]; omega) rfl (by rw [List.length_take]; omega)
noncomputable def bcd_Get.c : Con := ⟨93, bcd_Get.sg, bcd_Get.rs, bcd_Get.f⟩
theorem bcd_Get.con : ConOk Tryz.prog bcd_Get.c := walked (C := bcd_Get.C) rfl (by kernel_rfl) (by kernel_rfl) (by kernel_rfl) rfl ⟨bcd_Size.con, trivial⟩ fun ⟨s, n⟩ y h => by
  obtain ⟨l, rfl⟩ := ex_sb s
  exact ⟨502, (bcd_Get.run l n).trans h⟩
end Go.Proofs.YtkaihbkfobiejaaGreatDoor.Xe
