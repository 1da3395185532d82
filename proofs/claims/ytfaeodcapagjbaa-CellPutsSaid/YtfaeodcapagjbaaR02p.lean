/- What the reference's Put answers. -/
import Derived.Test.YtfaeodcapagjbaaHex
import Derived.Test.YtfaeodcapagjbaaPx13
import Derived.Test.YtfaeodcapagjbaaPx25
namespace Go.Proofs.Ytfaeodcapagjbaa.Sp
open Go.RowKit Go.Proofs.YtfaeodcapagjbaaW.PrintWords Go.Proofs.YtfaeodcapagjbaaW.PrintLast Go.Proofs.YtfaeodcapagjbaaW.PrintMore Go.Proofs.Ytfaeodcapagjbaa.P
set_option linter.unusedVariables false
set_option linter.unusedSimpArgs false
theorem rput256 : ∀ n : Fin 256, 0 ≤ (Int.tdiv ((n.val : Nat) : Int) 16) % 256 ∧ (Int.tdiv ((n.val : Nat) : Int) 16) % 256 < 16 ∧ 0 ≤ Int.tmod ((n.val : Nat) : Int) 16 ∧ Int.tmod ((n.val : Nat) : Int) 16 < 16 ∧
    bt (⟨#[48, 49, 50, 51, 52, 53, 54, 55, 56, 57, 65, 66, 67, 68, 69, 70]⟩ : ByteArray) ((Int.tdiv ((n.val : Nat) : Int) 16) % 256) = (hexD (n.val / 16)).toNat ∧ bt (⟨#[48, 49, 50, 51, 52, 53, 54, 55, 56, 57, 65, 66, 67, 68, 69, 70]⟩ : ByteArray) (Int.tmod ((n.val : Nat) : Int) 16) = (hexD (n.val % 16)).toNat := by decide +kernel
theorem ref02_Put_l (l : List UInt8) (hl : l.length ≤ 35184372088832) : ∀ (m o : List UInt8) (k i : Nat), i + m.length = l.length → l.drop i = m → o.length = 2 * i → m.length < k →
    groatref02_Put.l0 k (sb l) (ints o) (i : Int) = some (sb (o ++ hexPut m))
  | [], o, k, i, hi, hd, ho, hk => by
    obtain ⟨k, rfl⟩ : ∃ m, k = m + 1 := ⟨k - 1, by omega⟩
    have hi' : i = l.length := by simpa using hi
    simp only [groatref02_Put.l0]
    rw [if_neg (by rw [size_sb]; omega), str_ints]; simp [hexPut]
  | a :: m, o, k, i, hi, hd, ho, hk => by
    obtain ⟨k, rfl⟩ : ∃ m, k = m + 1 := ⟨k - 1, by omega⟩
    have hi' : i + (m.length + 1) = l.length := by simpa using hi
    have hk' : m.length < k := by simp at hk; omega
    have b0 : (i : Int) < (l.length : Int) := by omega
    have b1 : 0 ≤ (i : Int) := by omega
    have b2 : i < 9223372036854775807 := by omega
    have b6 : o.length + 2 < 140737488355328 := by omega
    have hlt : i < l.length := by omega
    have hi2 : i + 1 + m.length = l.length := by omega
    have ho2 : o.length + 2 = 2 * (i + 1) := by omega
    have hd2 := hd
    rw [List.drop_eq_getElem_cons hlt] at hd2
    injection hd2 with ha hd2
    obtain ⟨p1, p2, p3, p4, p5, p6⟩ := rput256 ⟨a.toNat, u8_lt a⟩
    simp only at p1 p2 p3 p4 p5 p6
    have e : ints o ++ [((hexD (a.toNat / 16)).toNat : Int), ((hexD (a.toNat % 16)).toNat : Int)] = ints (o ++ [hexD (a.toNat / 16), hexD (a.toNat % 16)]) := by simp [ints]
    have s16 : (((⟨#[48, 49, 50, 51, 52, 53, 54, 55, 56, 57, 65, 66, 67, 68, 69, 70]⟩ : ByteArray).size : Nat) : Int) = 16 := rfl
    simp only [groatref02_Put.l0, groatref02_Digits.f, Option.bind_some, s16]
    rw [if_pos (by rw [size_sb]; exact b0), if_pos b1, bt_sb, List.getElem?_eq_getElem hlt, Option.getD_some, ha, if_pos p1, if_pos p2, if_pos p3, if_pos p4, p5, p6]
    simp only [List.length_cons, List.length_nil, ints_length]
    rw [if_pos b6, wrap64_succ b2, e, ref02_Put_l l hl m _ k (i + 1) hi2 hd2 (by rw [List.length_append]; exact ho2) hk', hexPut]
    simp
theorem ref02_Put (l : List UInt8) (hl : l.length ≤ 35184372088832) (k : Nat) (hk : l.length < k) : groatref02_Put.f k (sb l) = some (sb (hexPut l)) :=
  ref02_Put_l l hl l [] k 0 (by simp) rfl rfl hk
end Go.Proofs.Ytfaeodcapagjbaa.Sp
