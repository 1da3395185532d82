/- What the program's functions on digits of sixteen answer. -/
import Derived.Test.YtfaeodcapagjbaaHex
import Derived.Test.YtfaeodcapagjbaaPx5
import Derived.Test.YtfaeodcapagjbaaPx7
namespace Go.Proofs.Ytfaeodcapagjbaa.Sp
open Go.RowKit Go.Proofs.YtfaeodcapagjbaaW.PrintWords Go.Proofs.YtfaeodcapagjbaaW.PrintLast Go.Proofs.YtfaeodcapagjbaaW.PrintMore Go.Proofs.Ytfaeodcapagjbaa.P
set_option linter.unusedVariables false
set_option linter.unusedSimpArgs false
def hexP (x : UInt8) : Int × Bool := if hexOk x = true then (((hexV x : Nat) : Int), true) else (0, false)
theorem hexP_pos {x : UInt8} (h : hexOk x = true) : hexP x = (((hexV x : Nat) : Int), true) := if_pos h
theorem hexP_neg {x : UInt8} (h : ¬ hexOk x = true) : hexP x = (0, false) := if_neg h
theorem hexa_Digit256 : ∀ n : Fin 256, hexa_Digit.f 1 ((n.val : Nat) : Int) = some (hexP (u8 n.val)) := by decide +kernel
theorem hexa_Digit (x : UInt8) (k : Nat) (hk : 1 ≤ k) : hexa_Digit.f k (x.toNat : Int) = some (hexP x) := by
  refine at_rounds (hexa_Digit.mono _) hk ?_
  have := hexa_Digit256 ⟨x.toNat, u8_lt x⟩
  simp only [u8_of_nat] at this
  exact this
theorem or256 : ∀ a b : Fin 16, (Go.bits .or .i64 (wrap64 (((a.val : Nat) : Int) * 16)) ((b.val : Nat) : Int)) % 256 = ((16 * a.val + b.val : Nat) : Int) := by decide +kernel
theorem hexa_Get_l (l : List UInt8) (hl : l.length ≤ 140737488351232) : ∀ (m o : List UInt8) (h : Int) (k i : Nat), i + m.length = l.length → i % 2 = 0 → l.drop i = m → o.length ≤ i → m.length + 2 < k →
    hexa_Get.l0 k (sb l) (ints o) h (i : Int) = some (sb (hexFrom i o m).1, (hexFrom i o m).2.1, (hexFrom i o m).2.2)
  | [], o, h, k, i, hi, h2, hd, ho, hk => by
    obtain ⟨k, rfl⟩ : ∃ m, k = m + 1 := ⟨k - 1, by omega⟩
    have hi' : i = l.length := by simpa using hi
    have b : ((l.length : Nat) : Int) % 2 = 0 := by omega
    simp only [hexa_Get.l0]
    rw [if_neg (by rw [size_sb]; omega), size_sb, if_pos b, str_ints]; rfl
  | [a], o, h, k, i, hi, h2, hd, ho, hk => by
    obtain ⟨k, rfl⟩ : ∃ m, k = m + 2 := ⟨k - 2, by simp at hk; omega⟩
    have hi' : i + 1 = l.length := by simpa using hi
    have b0 : (i : Int) < (l.length : Int) := by omega
    have b1 : 0 ≤ (i : Int) := by omega
    have b2 : i < 9223372036854775807 := by omega
    have b3 : ¬ (((i + 1 : Nat) : Int) < (l.length : Int)) := by omega
    have b4 : ¬ (((l.length : Nat) : Int) % 2 = 0) := by omega
    have hlt : i < l.length := by omega
    have b5 : 1 ≤ k := by simp at hk; omega
    have ha : l[i] = a := by rw [List.drop_eq_getElem_cons hlt] at hd; injection hd
    have t0 : Int.tmod (i : Int) 2 = 0 := (tmod_nat i 2).trans (by rw [h2]; rfl)
    simp only [hexa_Get.l0]
    rw [if_pos (by rw [size_sb]; exact b0), if_pos b1, bt_sb, List.getElem?_eq_getElem hlt, Option.getD_some, ha, hexa_Digit a _ (by omega), Option.bind_some]
    rw [hexFrom]
    by_cases hx : hexOk a = true
    · rw [hexP_pos hx, if_pos hx]
      simp only [if_true]
      rw [if_pos t0, wrap64_succ b2, if_neg (by rw [size_sb]; exact b3), size_sb, if_neg b4, ← hi']; rfl
    · rw [hexP_neg hx, if_neg hx]; rfl
  | a :: b :: m, o, h, k, i, hi, h2, hd, ho, hk => by
    obtain ⟨k, rfl⟩ : ∃ m, k = m + 2 := ⟨k - 2, by simp at hk; omega⟩
    have hi' : i + (m.length + 2) = l.length := by simpa using hi
    have hk' : m.length + 2 < k := by simp at hk; omega
    have b0 : (i : Int) < (l.length : Int) := by omega
    have b1 : 0 ≤ (i : Int) := by omega
    have b2 : i < 9223372036854775807 := by omega
    have b3 : ((i + 1 : Nat) : Int) < (l.length : Int) := by omega
    have b4 : 0 ≤ ((i + 1 : Nat) : Int) := by omega
    have b5 : i + 1 < 9223372036854775807 := by omega
    have b6 : o.length < 140737488355328 := by omega
    have hlt : i < l.length := by omega
    have hlt1 : i + 1 < l.length := by omega
    have hm1 : (i + 1) % 2 = 1 := by omega
    have hm2 : (i + 2) % 2 = 0 := by omega
    have hi2 : i + 2 + m.length = l.length := by omega
    have ho2 : o.length + 1 ≤ i + 2 := by omega
    have hd2 := hd
    rw [List.drop_eq_getElem_cons hlt, List.drop_eq_getElem_cons hlt1] at hd2
    injection hd2 with ha hd2
    injection hd2 with hb hd2
    have t0 : Int.tmod (i : Int) 2 = 0 := (tmod_nat i 2).trans (by rw [h2]; rfl)
    have t1 : Int.tmod ((i + 1 : Nat) : Int) 2 = 1 := (tmod_nat (i + 1) 2).trans (by rw [hm1]; rfl)
    rw [hexFrom]
    simp only [hexa_Get.l0]
    rw [if_pos (by rw [size_sb]; exact b0), if_pos b1, bt_sb, List.getElem?_eq_getElem hlt, Option.getD_some, ha, hexa_Digit a _ (by omega), Option.bind_some]
    by_cases hx : hexOk a = true
    · rw [hexP_pos hx, if_pos hx]
      simp only [if_true]
      rw [if_pos t0, wrap64_succ b2, if_pos (by rw [size_sb]; exact b3), if_pos b4, bt_sb, List.getElem?_eq_getElem hlt1, Option.getD_some, hb, hexa_Digit b _ (by omega), Option.bind_some]
      by_cases hy : hexOk b = true
      · rw [hexP_pos hy, if_pos hy]
        simp only [if_true]
        have h1 := hexV_lt hx
        have h3 := hexV_lt hy
        have hv : 16 * hexV a + hexV b < 256 := by omega
        have e := or256 ⟨hexV a, h1⟩ ⟨hexV b, h3⟩
        simp only at e
        rw [t1, if_neg (by decide), ints_length, if_pos b6, wrap64_succ b5, e, ints_snoc o _ hv]
        exact hexa_Get_l l hl m _ _ k (i + 2) hi2 hm2 hd2 (by rw [List.length_append]; exact ho2) hk'
      · rw [hexP_neg hy, if_neg hy]; rfl
    · rw [hexP_neg hx, if_neg hx]; rfl
theorem hexa_Get (l : List UInt8) (hl : l.length ≤ 140737488351232) (k : Nat) (hk : l.length + 2 < k) : hexa_Get.f k (sb l) = some (sb (hexGet l).1, (hexGet l).2.1, (hexGet l).2.2) := by
  have b0 : -9223372036854775808 ≤ ((l.length : Nat) : Int) / 2 := by omega
  have b1 : ((l.length : Nat) : Int) / 2 ≤ 9223372036854775807 := by omega
  have b2 : 0 ≤ ((l.length : Nat) : Int) / 2 := by omega
  have b3 : (((l.length : Nat) : Int) / 2).toNat ≤ 281474976710656 := by omega
  unfold hexa_Get.f
  rw [size_sb, wrap64_id b0 b1, if_pos b2, if_pos b3]
  exact hexa_Get_l l hl l [] 0 k 0 (by simp) rfl rfl (Nat.le_refl _) hk
theorem put256 : ∀ n : Fin 256, 0 ≤ ((n.val : Nat) : Int) / 16 ∧ ((n.val : Nat) : Int) / 16 < 16 ∧ 0 ≤ Go.bits .and .u8 ((n.val : Nat) : Int) 15 ∧ Go.bits .and .u8 ((n.val : Nat) : Int) 15 < 16 ∧
    bt (⟨#[48, 49, 50, 51, 52, 53, 54, 55, 56, 57, 65, 66, 67, 68, 69, 70]⟩ : ByteArray) (((n.val : Nat) : Int) / 16) = (hexD (n.val / 16)).toNat ∧ bt (⟨#[48, 49, 50, 51, 52, 53, 54, 55, 56, 57, 65, 66, 67, 68, 69, 70]⟩ : ByteArray) (Go.bits .and .u8 ((n.val : Nat) : Int) 15) = (hexD (n.val % 16)).toNat := by decide +kernel
theorem hexa_Put_l (l : List UInt8) (hl : l.length ≤ 35184372088832) : ∀ (m o : List UInt8) (k i : Nat), i + m.length = l.length → l.drop i = m → o.length = 2 * i → m.length < k →
    hexa_Put.l0 k (sb l) (ints o) (i : Int) = some (sb (o ++ hexPut m))
  | [], o, k, i, hi, hd, ho, hk => by
    obtain ⟨k, rfl⟩ : ∃ m, k = m + 1 := ⟨k - 1, by omega⟩
    have hi' : i = l.length := by simpa using hi
    simp only [hexa_Put.l0]
    rw [if_neg (by rw [size_sb]; omega), str_ints]; simp [hexPut]
  | a :: m, o, k, i, hi, hd, ho, hk => by
    obtain ⟨k, rfl⟩ : ∃ m, k = m + 1 := ⟨k - 1, by omega⟩
    have hi' : i + (m.length + 1) = l.length := by simpa using hi
    have hk' : m.length < k := by simp at hk; omega
    have b0 : (i : Int) < (l.length : Int) := by omega
    have b1 : 0 ≤ (i : Int) := by omega
    have b2 : i < 9223372036854775807 := by omega
    have b6 : o.length + 2 < 140737488355328 := by omega
    have hlt : i < l.length := by omega
    have hi2 : i + 1 + m.length = l.length := by omega
    have ho2 : o.length + 2 = 2 * (i + 1) := by omega
    have hd2 := hd
    rw [List.drop_eq_getElem_cons hlt] at hd2
    injection hd2 with ha hd2
    obtain ⟨p1, p2, p3, p4, p5, p6⟩ := put256 ⟨a.toNat, u8_lt a⟩
    simp only at p1 p2 p3 p4 p5 p6
    have e : ints o ++ [((hexD (a.toNat / 16)).toNat : Int), ((hexD (a.toNat % 16)).toNat : Int)] = ints (o ++ [hexD (a.toNat / 16), hexD (a.toNat % 16)]) := by simp [ints]
    simp only [hexa_Put.l0]
    rw [if_pos (by rw [size_sb]; exact b0), if_pos b1, bt_sb, List.getElem?_eq_getElem hlt, Option.getD_some, ha, if_pos p1, if_pos p2, if_pos p3, if_pos p4, p5, p6]
    simp only [Option.bind_some, List.length_cons, List.length_nil, ints_length]
    rw [if_pos b6, wrap64_succ b2, e, hexa_Put_l l hl m _ k (i + 1) hi2 hd2 (by rw [List.length_append]; exact ho2) hk', hexPut]
    simp
theorem hexa_Put (l : List UInt8) (hl : l.length ≤ 35184372088832) (k : Nat) (hk : l.length < k) : hexa_Put.f k (sb l) = some (sb (hexPut l)) := by
  have b0 : -9223372036854775808 ≤ 2 * ((l.length : Nat) : Int) := by omega
  have b1 : 2 * ((l.length : Nat) : Int) ≤ 9223372036854775807 := by omega
  have b2 : 0 ≤ 2 * ((l.length : Nat) : Int) := by omega
  have b3 : (2 * ((l.length : Nat) : Int)).toNat ≤ 281474976710656 := by omega
  unfold hexa_Put.f
  rw [size_sb, wrap64_id b0 b1, if_pos b2, if_pos b3]
  exact hexa_Put_l l hl l [] k 0 (by simp) rfl rfl hk
end Go.Proofs.Ytfaeodcapagjbaa.Sp
