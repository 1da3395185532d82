/- What the program's reader of decimal digits answers. -/
import Derived.Test.YtjbhknfdfnilbaaEdg
import Derived.Laws.RangeString
import Derived.Laws.RangeAny
namespace Go.Proofs.Ytjbhknfdfnilbaa.Xe
open Go Go.RowKit Go.Proofs.Ytjbhknfdfnilbaa.Sp
set_option linter.unusedVariables false
set_option linter.unusedSimpArgs false
set_option maxRecDepth 100000
theorem wrap32_nat {n : Nat} (h : n < 1000) : IntKind.wrap .i32 (n : Int) = n := by
  unfold IntKind.wrap
  show (if (true && decide ((n : Int) % 4294967296 ≥ 2147483648)) = true then (n : Int) % 4294967296 - 4294967296 else (n : Int) % 4294967296) = _
  simp only [Bool.true_and, decide_eq_true_eq]
  split <;> omega
/-! ### digits_Get -/
@[reducible] def digits_Get.sg : List Shp := [.v (.str)]
@[reducible] def digits_Get.rs : Rs := .tup [.v (.int .i64), .v (.bool)]
@[reducible] noncomputable def digits_Get.code : Code := Try.f101.body.getD .skip
noncomputable def digits_Get.C : Ctx := ⟨tab, [digits_All.c], [], ⟨[(5, [4, 20], 1)], []⟩⟩
noncomputable def digits_Get.l0 (n : Nat) (v0 : Int) (v1 : ByteArray) (v2 : Nat) : Option ((Int × Bool)) := run digits_Get.C (finOf digits_Get.C Try.f101 digits_Get.rs) n (todoAt 5 digits_Get.code) ⟨[.junk, .junk, .junk, .junk, .int .i64 v0, .junk, .junk, .junk, .junk, .junk, .junk, .junk, .junk, .junk, .junk, .junk, .junk, .junk, .junk, .junk, .ptr 0 0, .junk, .junk, .junk, .junk, .junk, .junk, .junk, .junk, .junk, .junk], [[.itr v1 v2]], []⟩
-- the loop at region 5
theorem digits_Get.l0_eq (n : Nat) (v0 : Int) (v1 : ByteArray) (v2 : Nat) : digits_Get.l0 (n + 1) v0 v1 v2 =
  (if v2 < ByteArray.size v1 then (digits_Get.l0 n (IntKind.wrap IntKind.i64 (IntKind.wrap IntKind.i64 (10 * v0) + IntKind.wrap IntKind.i64 (IntKind.wrap IntKind.i32 ((↑(Prod.fst (Utf8.decode v1 v2)) : Int) - 48)))) v1 (v2 + Prod.snd (Utf8.decode v1 v2)))
  else (some ((v0, true)))) := by kernel_rfl
theorem digits_Get.eq (n : Nat) (a0 : ByteArray) : call digits_Get.C Try.f101 digits_Get.code digits_Get.sg digits_Get.rs n a0 =
  (if a0 = ByteArray.mk #[] then (some ((0, false)))
  else (if (↑(ByteArray.size a0) : Int) > 18 then (some ((0, false)))
   else ((digits_All.f a0).bind fun b0 =>
    (if ¬b0 = true then (some ((0, false)))
    else (digits_Get.l0 n 0 a0 0))))) := by kernel_rfl
def digits_Get.f (s : ByteArray) : Option (Int × Bool) := some (getNum (bl s))
theorem digits_Get (l : List UInt8) : digits_Get.f (sb l) = some (getNum l) := rfl
theorem digits_Get_l (l : List UInt8) (hl : l.length ≤ 18) (hd : l.all dig = true) : ∀ (m : List UInt8) (i k n : Nat), l.drop i = m → i + m.length = l.length → n < 10 ^ i → m.length < k → digits_Get.l0 k (n : Int) (sb l) i = some (((numFrom n m : Nat) : Int), true)
  | [], i, k, n, hm, hi, hn, hk => by
    obtain ⟨k, rfl⟩ : ∃ m, k = m + 1 := ⟨k - 1, by omega⟩
    simp at hi
    rw [digits_Get.l0_eq, if_neg (by rw [size_sb]; omega)]; rfl
  | a :: m, i, k, n, hm, hi, hn, hk => by
    obtain ⟨k, rfl⟩ : ∃ m, k = m + 1 := ⟨k - 1, by omega⟩
    simp only [List.length_cons] at hi hk
    obtain ⟨hlt, ha, hm2⟩ := drop_cons hm
    have da : dig a = true := by rw [← ha]; exact List.all_eq_true.1 hd _ (List.getElem_mem hlt)
    have hh := (dig_iff a).1 da
    have hp : 10 ^ i ≤ 10 ^ 17 := Nat.pow_le_pow_right (by decide) (by omega)
    have hp2 : (10 : Nat) ^ 17 = 100000000000000000 := by decide
    have hs : 10 ^ (i + 1) = 10 ^ i * 10 := Nat.pow_succ ..
    have e1 : IntKind.wrap .i64 (10 * (n : Int)) = ((10 * n : Nat) : Int) := by rw [show 10 * (n : Int) = ((10 * n : Nat) : Int) by omega]; exact wrap_nat (by omega)
    have e2 : IntKind.wrap .i32 ((a.toNat : Int) - 48) = ((a.toNat - 48 : Nat) : Int) := by rw [show (a.toNat : Int) - 48 = ((a.toNat - 48 : Nat) : Int) by omega]; exact wrap32_nat (by omega)
    have e3 : IntKind.wrap .i64 ((a.toNat - 48 : Nat) : Int) = ((a.toNat - 48 : Nat) : Int) := wrap_nat (by omega)
    have e4 : IntKind.wrap .i64 (((10 * n : Nat) : Int) + ((a.toNat - 48 : Nat) : Int)) = ((10 * n + (a.toNat - 48) : Nat) : Int) := by rw [show ((10 * n : Nat) : Int) + ((a.toNat - 48 : Nat) : Int) = ((10 * n + (a.toNat - 48) : Nat) : Int) by omega]; exact wrap_nat (by omega)
    rw [digits_Get.l0_eq, if_pos (by rw [size_sb]; omega), decode_dig l i a m hm da]
    dsimp only
    rw [e1, e2, e3, e4]
    exact digits_Get_l l hl hd m (i + 1) k _ hm2 (by omega) (by omega) (by omega)
theorem digits_Get.run (l : List UInt8) : call digits_Get.C Try.f101 digits_Get.code digits_Get.sg digits_Get.rs 20 (sb l) = some (getNum l) := by
  rw [digits_Get.eq]
  unfold getNum
  by_cases h0 : l = []
  · subst h0
    rw [if_pos (show sb [] = ByteArray.mk #[] from rfl), if_pos (.inl (by decide))]
  · have hne : ¬ sb l = ByteArray.mk #[] := fun e => h0 (sb_inj (b := []) e)
    have hlen : 0 < l.length := List.length_pos_iff.2 h0
    rw [if_neg hne]
    by_cases h1 : 18 < l.length
    · rw [if_pos (by rw [size_sb]; omega), if_pos (.inr (.inl h1))]
    · rw [if_neg (by rw [size_sb]; omega), digits_All, Option.bind_some]
      cases hd : l.all dig with
      | false => rw [if_pos (by decide), if_pos (.inr (.inr rfl))]
      | true =>
        have hn : ¬ (l.length < 1 ∨ 18 < l.length ∨ true = false) := by
          rintro (h | h | h)
          · omega
          · omega
          · cases h
        rw [if_neg (by decide), if_neg hn]
        exact digits_Get_l l (by omega) hd l 0 20 0 rfl (by simp) (by decide) (by omega)
noncomputable def digits_Get.c : Con := ⟨101, digits_Get.sg, digits_Get.rs, digits_Get.f⟩
theorem digits_Get.con : ConOk Try.prog digits_Get.c := walked (C := digits_Get.C) rfl (by kernel_rfl) (by kernel_rfl) (by kernel_rfl) rfl ⟨digits_All.con, trivial⟩ fun s y h => by
  obtain ⟨l, rfl⟩ := ex_sb s
  exact ⟨20, (digits_Get.run l).trans h⟩
end Go.Proofs.Ytjbhknfdfnilbaa.Xe
