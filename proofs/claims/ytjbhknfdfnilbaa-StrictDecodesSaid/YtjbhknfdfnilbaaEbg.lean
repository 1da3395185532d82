/- What the program's bcd.Get answers. -/
import Derived.Test.YtjbhknfdfnilbaaEbc
namespace Go.Proofs.Ytjbhknfdfnilbaa.Xe
open Go Go.RowKit Go.Proofs.Ytjbhknfdfnilbaa.Sp
set_option linter.unusedVariables false
set_option linter.unusedSimpArgs false
set_option maxRecDepth 100000
theorem nb256 : ∀ n : Fin 256, Int.fdiv ((n.val : Nat) : Int) (2 ^ 4) = ((n.val / 16 : Nat) : Int) ∧ bits BinOp.and IntKind.u8 ((n.val : Nat) : Int) 15 = ((n.val % 16 : Nat) : Int) ∧ IntKind.wrap IntKind.u8 (48 + ((n.val / 16 : Nat) : Int)) = ((48 + n.val / 16 : Nat) : Int) ∧ IntKind.wrap IntKind.u8 (48 + ((n.val % 16 : Nat) : Int)) = ((48 + n.val % 16 : Nat) : Int) := by decide +kernel
/-! ### bcd_Get -/
@[reducible] def bcd_Get.sg : List Shp := [.v (.str), .v (.int .i64)]
@[reducible] def bcd_Get.rs : Rs := .tup [.v (.str), .v (.int .i64), .v (.int .i64)]
@[reducible] noncomputable def bcd_Get.code : Code := Try.f67.body.getD .skip
noncomputable def bcd_Get.C : Ctx := ⟨tab, [bcd_Size.c], [], ⟨[(7, [0, 1, 7, 30, 31], 0)], []⟩⟩
noncomputable def bcd_Get.l0 (n : Nat) (v0 : ByteArray) (v1 : Int) (v2 : List Int) (v3 : Int) (v4 : Int) : Option ((ByteArray × (Int × Int))) := run bcd_Get.C (finOf bcd_Get.C Try.f67 bcd_Get.rs) n (todoAt 7 bcd_Get.code) ⟨[.str v0, .int .i64 v1, .junk, .junk, .junk, .junk, .junk, .sl (some 0) (.int .u8) v2, .junk, .junk, .junk, .junk, .junk, .junk, .junk, .junk, .junk, .junk, .junk, .junk, .junk, .junk, .junk, .junk, .junk, .junk, .junk, .junk, .junk, .junk, .int .i64 v3, .int .i64 v4, .junk, .junk, .junk, .junk, .junk, .junk, .junk, .junk, .junk, .junk, .junk, .junk, .junk, .junk, .junk, .junk, .junk, .junk, .junk, .junk, .junk, .junk, .junk, .junk, .junk, .junk, .junk, .junk, .junk, .junk, .junk, .junk, .junk, .junk, .junk, .junk, .junk, .junk, .junk, .junk, .junk, .junk, .junk], [], [true]⟩
-- the loop at region 7
theorem bcd_Get.l0_eq (n : Nat) (v0 : ByteArray) (v1 : Int) (v2 : List Int) (v3 : Int) (v4 : Int) : bcd_Get.l0 (n + 1) v0 v1 v2 v3 v4 =
  (if v4 < v3 then ((bget v0 v4).bind fun b2 =>
   ((bget v0 v4).bind fun b3 =>
   (if v4 = 0 then (if ¬Int.tmod v1 2 = 0 then (if ¬Int.fdiv (↑(UInt8.toNat b2) : Int) (2 ^ 4) = 0 then (some ((ByteArray.mk #[], 4, 0)))
     else (if Int.fdiv (↑(UInt8.toNat b2) : Int) (2 ^ 4) > 9 then (some ((ByteArray.mk #[], 3, v4)))
      else (if bits BinOp.and IntKind.u8 (↑(UInt8.toNat b3) : Int) 15 > 9 then (some ((ByteArray.mk #[], 3, v4)))
       else ((lcat 1 v2 [IntKind.wrap IntKind.u8 (48 + Int.fdiv (↑(UInt8.toNat b2) : Int) (2 ^ 4)), IntKind.wrap IntKind.u8 (48 + bits BinOp.and IntKind.u8 (↑(UInt8.toNat b3) : Int) 15)]).bind fun b4 =>
        (bcd_Get.l0 n v0 v1 b4 v3 (IntKind.wrap IntKind.i64 (v4 + 1)))))))
    else (if Int.fdiv (↑(UInt8.toNat b2) : Int) (2 ^ 4) > 9 then (some ((ByteArray.mk #[], 3, v4)))
     else (if bits BinOp.and IntKind.u8 (↑(UInt8.toNat b3) : Int) 15 > 9 then (some ((ByteArray.mk #[], 3, v4)))
      else ((lcat 1 v2 [IntKind.wrap IntKind.u8 (48 + Int.fdiv (↑(UInt8.toNat b2) : Int) (2 ^ 4)), IntKind.wrap IntKind.u8 (48 + bits BinOp.and IntKind.u8 (↑(UInt8.toNat b3) : Int) 15)]).bind fun b5 =>
       (bcd_Get.l0 n v0 v1 b5 v3 (IntKind.wrap IntKind.i64 (v4 + 1)))))))
   else (if Int.fdiv (↑(UInt8.toNat b2) : Int) (2 ^ 4) > 9 then (some ((ByteArray.mk #[], 3, v4)))
    else (if bits BinOp.and IntKind.u8 (↑(UInt8.toNat b3) : Int) 15 > 9 then (some ((ByteArray.mk #[], 3, v4)))
     else ((lcat 1 v2 [IntKind.wrap IntKind.u8 (48 + Int.fdiv (↑(UInt8.toNat b2) : Int) (2 ^ 4)), IntKind.wrap IntKind.u8 (48 + bits BinOp.and IntKind.u8 (↑(UInt8.toNat b3) : Int) 15)]).bind fun b6 =>
      (bcd_Get.l0 n v0 v1 b6 v3 (IntKind.wrap IntKind.i64 (v4 + 1)))))))))
  else ((lsub v2 (Int.tmod v1 2) (↑(List.length v2) : Int)).bind fun b7 =>
   (some ((bytesOf b7, 0, 0))))) := by kernel_rfl
theorem bcd_Get.eq (n : Nat) (a0 : ByteArray) (a1 : Int) : call bcd_Get.C Try.f67 bcd_Get.code bcd_Get.sg bcd_Get.rs n (a0, a1) =
  (if a1 < 0 then (some ((ByteArray.mk #[], 1, 0)))
  else (if a1 > 999 then (some ((ByteArray.mk #[], 1, 0)))
   else ((bcd_Size.f a1).bind fun b0 =>
    (if (↑(ByteArray.size a0) : Int) < b0 then (some ((ByteArray.mk #[], 2, (↑(ByteArray.size a0) : Int))))
    else (if (0 : Int) = 0 ∧ 0 ≤ IntKind.wrap IntKind.i64 (a1 + 1) ∧ 1 * IntKind.wrap IntKind.i64 (a1 + 1) ≤ 281474976710656 ∧ IntKind.wrap IntKind.i64 (a1 + 1) ≤ 9223372036854775807 then ((bcd_Size.f a1).bind fun b1 =>
      (bcd_Get.l0 n a0 a1 [] b1 0))
     else none))))) := by kernel_rfl
def bcd_Get.f (x : ByteArray × Int) : Option (ByteArray × Int × Int) := some (sb (bcdGet (bl x.1) x.2).1, (bcdGet (bl x.1) x.2).2.1, (bcdGet (bl x.1) x.2).2.2)
theorem bcd_Get (b : List UInt8) (n : Int) : bcd_Get.f (sb b, n) = some (sb (bcdGet b n).1, (bcdGet b n).2.1, (bcdGet b n).2.2) := rfl
theorem bcd_Get_l (b : List UInt8) (n : Nat) (hn : n ≤ 999) (hb : (n + 1) / 2 ≤ b.length) : ∀ (m o : List UInt8) (k i : Nat), (b.take ((n + 1) / 2)).drop i = m → i + m.length = (n + 1) / 2 → o.length = 2 * i → m.length < k →
    bcd_Get.l0 k (sb b) (n : Int) (ints o) (((n + 1) / 2 : Nat) : Int) (i : Int) = some (sb (bcdFrom (decide (n % 2 = 1)) i o m).1, (bcdFrom (decide (n % 2 = 1)) i o m).2.1, (bcdFrom (decide (n % 2 = 1)) i o m).2.2)
  | [], o, k, i, hm, hi, ho, hk => by
    obtain ⟨k, rfl⟩ : ∃ m, k = m + 1 := ⟨k - 1, by omega⟩
    have hi' : i = (n + 1) / 2 := by simpa using hi
    have t2 : Int.tmod (n : Int) 2 = ((n % 2 : Nat) : Int) := tmod_nat n 2
    have hs : lsub (ints o) ((n % 2 : Nat) : Int) ((ints o).length : Int) = some ((ints o).drop (n % 2)) := by
      unfold lsub
      rw [if_pos ⟨by omega, by rw [ints_length]; omega, Int.le_refl _⟩, Int.toNat_natCast, Int.toNat_natCast, List.take_length]
    rw [bcd_Get.l0_eq, if_neg (by omega), t2, hs, Option.bind_some, ints_drop, str_ints, bcdFrom]
    by_cases h : n % 2 = 1
    · rw [h]; rfl
    · rw [show n % 2 = 0 by omega]; rfl
  | c :: m, o, k, i, hm, hi, ho, hk => by
    obtain ⟨k, rfl⟩ : ∃ m, k = m + 1 := ⟨k - 1, by omega⟩
    rw [List.length_cons] at hi hk
    obtain ⟨hlt, hc, hm1⟩ := drop_cons hm
    have hmb : b.drop i = c :: b.drop (i + 1) := by
      have hlt2 : i < b.length := by rw [List.length_take] at hlt; omega
      rw [List.drop_eq_getElem_cons hlt2]
      rw [List.getElem_take] at hc; rw [hc]
    have hi2 : i + 1 + m.length = (n + 1) / 2 := by omega
    have ho2 : o.length + 2 = 2 * (i + 1) := by omega
    have hcl := u8_lt c
    obtain ⟨g1, g2, g3, g4⟩ := nb256 ⟨c.toNat, u8_lt c⟩
    simp only at g1 g2 g3 g4
    have t2 : Int.tmod (n : Int) 2 = ((n % 2 : Nat) : Int) := tmod_nat n 2
    have ih := bcd_Get_l b n hn hb m (o ++ [u8 (48 + c.toNat / 16), u8 (48 + c.toNat % 16)]) k (i + 1) hm1 hi2 (by rw [List.length_append]; exact ho2) (by omega)
    have tail : ¬ (i = 0 ∧ decide (n % 2 = 1) = true ∧ c.toNat / 16 ≠ 0) → (if ((c.toNat / 16 : Nat) : Int) > 9 then (some ((ByteArray.mk #[], 3, (i : Int)))) else (if ((c.toNat % 16 : Nat) : Int) > 9 then (some ((ByteArray.mk #[], 3, (i : Int)))) else ((lcat 1 (ints o) [((48 + c.toNat / 16 : Nat) : Int), ((48 + c.toNat % 16 : Nat) : Int)]).bind fun b5 => (bcd_Get.l0 k (sb b) (n : Int) b5 (((n + 1) / 2 : Nat) : Int) (IntKind.wrap IntKind.i64 ((i : Int) + 1)))))) = some (sb (bcdFrom (decide (n % 2 = 1)) i o (c :: m)).1, (bcdFrom (decide (n % 2 = 1)) i o (c :: m)).2.1, (bcdFrom (decide (n % 2 = 1)) i o (c :: m)).2.2) := by
      intro hne
      rw [bcdFrom, if_neg hne]
      by_cases h1 : 9 < c.toNat / 16
      · rw [if_pos (by omega), if_pos (.inl h1)]; rfl
      · rw [if_neg (by omega)]
        by_cases h2 : 9 < c.toNat % 16
        · rw [if_pos (by omega), if_pos (.inr h2)]; rfl
        · rw [if_neg (by omega), if_neg (by omega), lcat_ok _ _ _ (by rw [ints_length]; simp only [List.length_cons, List.length_nil]; omega), Option.bind_some, ints_two o _ _ (by omega) (by omega), wrap_succ (by omega)]
          exact ih
    rw [bcd_Get.l0_eq, if_pos (by omega), bget_drop hmb, Option.bind_some, Option.bind_some, g1, g2, g3, g4, t2]
    by_cases h1 : i = 0
    · rw [if_pos (by omega)]
      by_cases h2 : n % 2 = 1
      · rw [if_pos (by omega)]
        by_cases h3 : c.toNat / 16 = 0
        · rw [if_neg (by omega)]
          exact tail (fun h => h.2.2 h3)
        · rw [if_pos (by omega), bcdFrom, if_pos ⟨h1, decide_eq_true h2, h3⟩]; rfl
      · rw [if_neg (by omega)]
        exact tail (fun h => h2 (of_decide_eq_true h.2.1))
    · rw [if_neg (by omega)]
      exact tail (fun h => h1 h.1)
theorem bcd_Get.run (b : List UInt8) (n : Int) : call bcd_Get.C Try.f67 bcd_Get.code bcd_Get.sg bcd_Get.rs 502 (sb b, n) = some (sb (bcdGet b n).1, (bcdGet b n).2.1, (bcdGet b n).2.2) := by
  rw [bcd_Get.eq]
  unfold bcdGet
  by_cases h1 : n < 0
  · rw [if_pos h1, if_pos (.inl h1)]; rfl
  · rw [if_neg h1]
    by_cases h2 : 999 < n
    · rw [if_pos h2, if_pos (.inr h2)]; rfl
    · obtain ⟨v, rfl⟩ := Int.eq_ofNat_of_zero_le (show 0 ≤ n by omega)
      have hn2 : ¬ ((v : Int) < 0 ∨ 999 < (v : Int)) := by omega
      rw [if_neg h2, if_neg hn2, Int.toNat_natCast, bcd_Size v (by omega), Option.bind_some, Option.bind_some, size_sb]
      by_cases h3 : b.length < (v + 1) / 2
      · rw [if_pos (by omega), if_pos h3]; rfl
      · rw [if_neg (by omega), if_neg h3, wrap_succ (by omega), if_pos ⟨rfl, by omega, by omega, by omega⟩]
        exact bcd_Get_l b v (by omega) (by omega) _ [] _ 0 rfl (by rw [List.length_take]; omega) rfl (by rw [List.length_take]; omega)
noncomputable def bcd_Get.c : Con := ⟨67, bcd_Get.sg, bcd_Get.rs, bcd_Get.f⟩
theorem bcd_Get.con : ConOk Try.prog bcd_Get.c := walked (C := bcd_Get.C) rfl (by kernel_rfl) (by kernel_rfl) (by kernel_rfl) rfl ⟨bcd_Size.con, trivial⟩ fun ⟨s, n⟩ y h => by
  obtain ⟨l, rfl⟩ := ex_sb s
  exact ⟨502, (bcd_Get.run l n).trans h⟩
end Go.Proofs.Ytjbhknfdfnilbaa.Xe
