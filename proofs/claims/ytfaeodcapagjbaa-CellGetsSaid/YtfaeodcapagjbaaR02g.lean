/- What the reference's Worth and Get answer. -/
import Derived.Test.YtfaeodcapagjbaaHex
import Derived.Test.YtfaeodcapagjbaaPx13
import Derived.Test.YtfaeodcapagjbaaPx20
namespace Go.Proofs.Ytfaeodcapagjbaa.Sp
open Go.RowKit Go.Proofs.YtfaeodcapagjbaaW.PrintWords Go.Proofs.YtfaeodcapagjbaaW.PrintLast Go.Proofs.YtfaeodcapagjbaaW.PrintMore Go.Proofs.Ytfaeodcapagjbaa.P
set_option linter.unusedVariables false
set_option linter.unusedSimpArgs false
def worth (x : UInt8) : Int := if hexOk x = true then ((hexV x : Nat) : Int) else -1
theorem ref02_Worth256 : ∀ n : Fin 256, groatref02_Worth.f 17 ((n.val : Nat) : Int) = some (worth (u8 n.val)) := by decide +kernel
theorem ref02_Worth (x : UInt8) (k : Nat) (hk : 17 ≤ k) : groatref02_Worth.f k (x.toNat : Int) = some (worth x) := by
  refine at_rounds (groatref02_Worth.mono _) hk ?_
  have := ref02_Worth256 ⟨x.toNat, u8_lt x⟩
  simp only [u8_of_nat] at this
  exact this
theorem worth_neg {x : UInt8} : worth x < 0 ↔ ¬ hexOk x = true := by
  unfold worth
  by_cases h : hexOk x = true
  · rw [if_pos h]; simp [h]
  · rw [if_neg h]; simp [h]
def unhex : List UInt8 → List UInt8
  | a :: b :: m => u8 (16 * hexV a + hexV b) :: unhex m
  | _ => []
/-- The place of the first that is no digit; the length's, if all are. -/
def bad : Nat → List UInt8 → Option Nat
  | _, [] => none
  | i, a :: m => if hexOk a = true then bad (i + 1) m else some i
theorem hexFrom_bad : ∀ (l o : List UInt8) (i : Nat), hexFrom i o l = match bad i l with
    | some j => ([], (j : Int), false)
    | none => if l.length % 2 = 1 then ([], ((i + l.length : Nat) : Int), false) else (o ++ unhex l, 0, true)
  | [], o, i => by simp [hexFrom, bad, unhex]
  | [a], o, i => by
    rw [hexFrom, bad]
    by_cases h : hexOk a = true
    · rw [if_pos h, if_pos h]; simp [bad]
    · rw [if_neg h, if_neg h]
  | a :: b :: m, o, i => by
    rw [hexFrom, bad]
    by_cases h : hexOk a = true
    · rw [if_pos h, if_pos h, bad]
      by_cases h' : hexOk b = true
      · rw [if_pos h', if_pos h', hexFrom_bad m]
        cases bad (i + 2) m with
        | some j => rfl
        | none =>
          have e1 : (a :: b :: m).length % 2 = m.length % 2 := by rw [List.length_cons, List.length_cons]; omega
          have e2 : i + 2 + m.length = i + (a :: b :: m).length := by simp; omega
          simp only [e1, e2, unhex, List.append_assoc, List.singleton_append]
      · rw [if_neg h', if_neg h']
    · rw [if_neg h, if_neg h]
theorem bad_ok : ∀ (l : List UInt8) (i : Nat), bad i l = none → l.all hexOk = true
  | [], _, _ => rfl
  | a :: m, i, h => by
    rw [bad] at h
    by_cases ha : hexOk a = true
    · rw [if_pos ha] at h; rw [List.all_cons, ha, bad_ok m _ h]; rfl
    · rw [if_neg ha] at h; cases h
theorem ref02_Get_l1 (l : List UInt8) (hl : l.length ≤ 140737488351232) : ∀ (m o : List UInt8) (k i : Nat), i + m.length = l.length → m.length % 2 = 0 → l.drop i = m → m.all hexOk = true → o.length ≤ i → m.length + 20 < k →
    groatref02_Get.l1 k (sb l) (ints o) (i : Int) = some (sb (o ++ unhex m), 0, true)
  | [], o, k, i, hi, h2, hd, ha, ho, hk => by
    obtain ⟨k, rfl⟩ : ∃ m, k = m + 1 := ⟨k - 1, by omega⟩
    have hi' : i = l.length := by simpa using hi
    simp only [groatref02_Get.l1]
    rw [if_neg (by rw [size_sb]; omega), str_ints]; simp [unhex]
  | [a], o, k, i, hi, h2, hd, ha, ho, hk => by simp at h2
  | a :: b :: m, o, k, i, hi, h2, hd, hall, ho, hk => by
    obtain ⟨k, rfl⟩ : ∃ m, k = m + 1 := ⟨k - 1, by omega⟩
    have hi' : i + (m.length + 2) = l.length := by simpa using hi
    have hk' : m.length + 20 < k := by simp at hk; omega
    have b0 : (i : Int) < (l.length : Int) := by omega
    have b1 : 0 ≤ (i : Int) := by omega
    have b2 : i < 9223372036854775807 := by omega
    have b3 : ((i + 1 : Nat) : Int) < (l.length : Int) := by omega
    have b4 : 0 ≤ ((i + 1 : Nat) : Int) := by omega
    have b6 : o.length < 140737488355328 := by omega
    have b7 : -9223372036854775808 ≤ (i : Int) + 2 := by omega
    have b8 : (i : Int) + 2 ≤ 9223372036854775807 := by omega
    have hlt : i < l.length := by omega
    have hlt1 : i + 1 < l.length := by omega
    have hm2 : m.length % 2 = 0 := by rw [List.length_cons, List.length_cons] at h2; omega
    have hi2 : i + 2 + m.length = l.length := by omega
    have ho2 : o.length + 1 ≤ i + 2 := by omega
    have hd2 := hd
    rw [List.drop_eq_getElem_cons hlt, List.drop_eq_getElem_cons hlt1] at hd2
    injection hd2 with ha hd2
    injection hd2 with hb hd2
    simp only [List.all_cons, Bool.and_eq_true] at hall
    have h1 := hexV_lt hall.1
    have h3 := hexV_lt hall.2.1
    have hv : 16 * hexV a + hexV b < 256 := by omega
    have w1 : -9223372036854775808 ≤ 16 * ((hexV a : Nat) : Int) := by omega
    have w2 : 16 * ((hexV a : Nat) : Int) ≤ 9223372036854775807 := by omega
    have w3 : -9223372036854775808 ≤ 16 * ((hexV a : Nat) : Int) + ((hexV b : Nat) : Int) := by omega
    have w4 : 16 * ((hexV a : Nat) : Int) + ((hexV b : Nat) : Int) ≤ 9223372036854775807 := by omega
    have w5 : (16 * ((hexV a : Nat) : Int) + ((hexV b : Nat) : Int)) % 256 = ((16 * hexV a + hexV b : Nat) : Int) := by omega
    have k1 : 17 ≤ k := by omega
    have ea : worth a = ((hexV a : Nat) : Int) := if_pos hall.1
    have eb : worth b = ((hexV b : Nat) : Int) := if_pos hall.2.1
    simp only [groatref02_Get.l1]
    rw [if_pos (by rw [size_sb]; exact b0), if_pos b1, bt_sb, List.getElem?_eq_getElem hlt, Option.getD_some, ha, ref02_Worth a _ k1, Option.bind_some, wrap64_succ b2, if_pos b4, if_pos (by rw [size_sb]; exact b3), bt_sb, List.getElem?_eq_getElem hlt1, Option.getD_some, hb, ref02_Worth b _ k1, Option.bind_some, ints_length, if_pos b6, ea, eb, wrap64_id w1 w2, wrap64_id w3 w4, w5, ints_snoc o _ hv, wrap64_id b7 b8]
    have := ref02_Get_l1 l hl m (o ++ [u8 (16 * hexV a + hexV b)]) k (i + 2) hi2 hm2 hd2 hall.2.2 (by rw [List.length_append]; exact ho2) hk'
    rw [show (i : Int) + 2 = ((i + 2 : Nat) : Int) from rfl, this, unhex]
    simp
theorem ref02_Get_l0 (l : List UInt8) (hl : l.length ≤ 140737488351232) : ∀ (m : List UInt8) (k i : Nat), i + m.length = l.length → l.drop i = m → (∀ j, bad i m = some j → bad 0 l = some j) → (bad i m = none → bad 0 l = none) → m.length + l.length + 21 < k →
    groatref02_Get.l0 k (sb l) (i : Int) = some (sb (hexGet l).1, (hexGet l).2.1, (hexGet l).2.2)
  | [], k, i, hi, hd, hs, hn, hk => by
    obtain ⟨k, rfl⟩ : ∃ m, k = m + 1 := ⟨k - 1, by omega⟩
    have hb := hn rfl
    have e : hexGet l = if l.length % 2 = 1 then ([], ((0 + l.length : Nat) : Int), false) else ([] ++ unhex l, 0, true) := by unfold hexGet; rw [hexFrom_bad, hb]
    have hi' : i = l.length := by simpa using hi
    simp only [groatref02_Get.l0]
    rw [if_neg (by rw [size_sb]; omega), size_sb]
    by_cases h : l.length % 2 = 1
    · rw [if_pos (by omega), e, if_pos h]; simp [empty_sb]
    · rw [if_neg (by omega), e, if_neg h]
      have := ref02_Get_l1 l hl l [] k 0 (by simp) (by omega) rfl (bad_ok l 0 hb) (Nat.le_refl _) (by simp at hk; omega)
      exact this
  | a :: m, k, i, hi, hd, hs, hn, hk => by
    obtain ⟨k, rfl⟩ : ∃ m, k = m + 1 := ⟨k - 1, by omega⟩
    have hi' : i + (m.length + 1) = l.length := by simpa using hi
    have hk' : m.length + l.length + 21 < k := by simp at hk; omega
    have b0 : (i : Int) < (l.length : Int) := by omega
    have b1 : 0 ≤ (i : Int) := by omega
    have b2 : i < 9223372036854775807 := by omega
    have hlt : i < l.length := by omega
    have hi2 : i + 1 + m.length = l.length := by omega
    have k1 : 17 ≤ k := by omega
    have hd2 := hd
    rw [List.drop_eq_getElem_cons hlt] at hd2
    injection hd2 with ha hd2
    simp only [groatref02_Get.l0]
    rw [if_pos (by rw [size_sb]; exact b0), if_pos b1, bt_sb, List.getElem?_eq_getElem hlt, Option.getD_some, ha, ref02_Worth a _ k1, Option.bind_some]
    by_cases h : hexOk a = true
    · rw [if_neg (by rw [worth_neg]; simp [h]), wrap64_succ b2]
      exact ref02_Get_l0 l hl m k (i + 1) hi2 hd2 (fun j hj => hs j (by rw [bad, if_pos h]; exact hj)) (fun hj => hn (by rw [bad, if_pos h]; exact hj)) hk'
    · rw [if_pos (worth_neg.2 h)]
      have hb := hs i (by rw [bad, if_neg h])
      have e : hexGet l = ([], (i : Int), false) := by unfold hexGet; rw [hexFrom_bad, hb]
      rw [e]; rfl
theorem ref02_Get (l : List UInt8) (hl : l.length ≤ 140737488351232) (k : Nat) (hk : 2 * l.length + 21 < k) : groatref02_Get.f k (sb l) = some (sb (hexGet l).1, (hexGet l).2.1, (hexGet l).2.2) :=
  ref02_Get_l0 l hl l k 0 (by simp) rfl (fun _ h => h) (fun h => h) (by omega)
end Go.Proofs.Ytfaeodcapagjbaa.Sp
