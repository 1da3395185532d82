/- What the reference's Put on packed digits answers. -/
import Derived.Test.YtfaeodcapagjbaaBcdS
import Derived.Test.YtfaeodcapagjbaaR01a
import Derived.Test.YtfaeodcapagjbaaPx25
namespace Go.Proofs.Ytfaeodcapagjbaa.Sp
open Go.RowKit Go.Proofs.YtfaeodcapagjbaaW.PrintWords Go.Proofs.YtfaeodcapagjbaaW.PrintLast Go.Proofs.YtfaeodcapagjbaaW.PrintMore Go.Proofs.Ytfaeodcapagjbaa.P
set_option linter.unusedVariables false
set_option linter.unusedSimpArgs false
theorem rp1 : ∀ a : Fin 10, (16 * ((((48 + a.val : Nat) : Int) - 48) % 256)) % 256 = ((16 * a.val : Nat) : Int) := by decide +kernel
theorem rp2 : ∀ a b : Fin 10, (((16 * a.val : Nat) : Int) + ((((48 + b.val : Nat) : Int) - 48) % 256)) % 256 = ((16 * a.val + b.val : Nat) : Int) := by decide +kernel
theorem rp_one {a : UInt8} (ha : dig a = true) : (16 * (((a.toNat : Int) - 48) % 256)) % 256 = ((16 * (a.toNat - 48) : Nat) : Int) := by
  have ha := (dig_iff a).1 ha
  have := rp1 ⟨a.toNat - 48, by omega⟩
  simp only at this
  rwa [show 48 + (a.toNat - 48) = a.toNat by omega] at this
theorem rp_two {n : Nat} {b : UInt8} (hn : n ≤ 9) (hb : dig b = true) : (((16 * n : Nat) : Int) + (((b.toNat : Int) - 48) % 256)) % 256 = ((16 * n + (b.toNat - 48) : Nat) : Int) := by
  have hb := (dig_iff b).1 hb
  have := rp2 ⟨n, by omega⟩ ⟨b.toNat - 48, by omega⟩
  simp only at this
  rwa [show 48 + (b.toNat - 48) = b.toNat by omega] at this
/-- The second half of a byte. -/
theorem ref03_half (l : List UInt8) (hl : l.length ≤ 2000) (m o : List UInt8) (n k i : Nat) (b : UInt8) (hm : l.drop i = b :: m) (hb : dig b = true) (hn : n ≤ 9) (ho : o.length ≤ 2000) :
    groatref03_Put.l0 (k + 1) (sb l) (ints (o ++ [u8 (16 * n)])) 1 (i : Int) = groatref03_Put.l0 k (sb l) (ints (o ++ [u8 (16 * n + (b.toNat - 48))])) 0 ((i + 1 : Nat) : Int) := by
  have hlb := len_drop hm
  have hb' := (dig_iff b).1 hb
  have b0 : (i : Int) < (l.length : Int) := by omega
  have b1 : 0 ≤ (i : Int) := by omega
  have b2 : i < 9223372036854775807 := by omega
  have c0 : ((o.length + 1 : Nat) : Int) - 1 = (o.length : Int) := by omega
  have c1 : -9223372036854775808 ≤ (o.length : Int) := by omega
  have c2 : (o.length : Int) ≤ 9223372036854775807 := by omega
  have c3 : 0 ≤ (o.length : Int) := by omega
  have c4 : (o.length : Int) < ((o.length + 1 : Nat) : Int) := by omega
  have hlen : (ints (o ++ [u8 (16 * n)])).length = o.length + 1 := by rw [ints_length, List.length_append]; rfl
  have hrd : rd (ints (o ++ [u8 (16 * n)])) (o.length : Int) = ((16 * n : Nat) : Int) := by
    unfold rd ints
    rw [Int.toNat_natCast, List.map_append, List.getD_eq_getElem?_getD, List.getElem?_append_right (by simp)]
    simp [u8_toNat (16 * n) (by omega)]
  have hset : (ints (o ++ [u8 (16 * n)])).set o.length ((16 * n + (b.toNat - 48) : Nat) : Int) = ints (o ++ [u8 (16 * n + (b.toNat - 48))]) := by
    unfold ints
    rw [List.map_append, List.map_append, List.set_append_right _ _ (by simp)]
    simp [u8_toNat (16 * n + (b.toNat - 48)) (by omega)]
  have w0 : wrap64 (1 - 1) = 0 := wrap64_id (by omega) (by omega)
  rw [groatref03_Put.l0, if_pos (by rw [size_sb]; exact b0), if_pos b1, if_neg (by decide), hlen, c0, wrap64_id c1 c2, if_pos c3, if_pos c4, hrd, bt_drop hm, rp_two hn hb, Int.toNat_natCast, hset, w0, wrap64_succ b2]
theorem ref03_Put_l (l : List UInt8) (hl : l.length ≤ 2000) (hd : l.all dig = true) : ∀ (m o : List UInt8) (k i : Nat), l.drop i = m → i + m.length = l.length → m.length % 2 = 0 → o.length ≤ i + 1 → m.length < k →
    groatref03_Put.l0 k (sb l) (ints o) 0 (i : Int) = some (sb (o ++ pack m), true)
  | [], o, k, i, hm, hi, h2, ho, hk => by
    obtain ⟨k, rfl⟩ : ∃ m, k = m + 1 := ⟨k - 1, by omega⟩
    have hi' : i = l.length := by simpa using hi
    simp only [groatref03_Put.l0]
    rw [if_neg (by rw [size_sb]; omega), str_ints]; simp [pack]
  | [a], o, k, i, hm, hi, h2, ho, hk => by simp at h2
  | a :: b :: m, o, k, i, hm, hi, h2, ho, hk => by
    obtain ⟨k, rfl⟩ : ∃ m, k = m + 2 := ⟨k - 2, by rw [List.length_cons, List.length_cons] at hk; omega⟩
    obtain ⟨hlt, ha, hm1⟩ := drop_cons hm
    obtain ⟨hlt1, hb, hm2⟩ := drop_cons hm1
    have da : dig a = true := by rw [← ha]; exact List.all_eq_true.1 hd _ (List.getElem_mem hlt)
    have db : dig b = true := by rw [← hb]; exact List.all_eq_true.1 hd _ (List.getElem_mem hlt1)
    have hl3 : m.length + 2 = (a :: b :: m).length := rfl
    have da' := (dig_iff a).1 da
    have b0 : (i : Int) < (l.length : Int) := by omega
    have b1 : 0 ≤ (i : Int) := by omega
    have b2 : i < 9223372036854775807 := by omega
    have b6 : o.length < 140737488355328 := by omega
    have b7 : 16 * (a.toNat - 48) < 256 := by omega
    have b8 : o.length ≤ 2000 := by omega
    have b9 : a.toNat - 48 ≤ 9 := by omega
    have hm4 : m.length % 2 = 0 := by omega
    have hi2 : i + 2 + m.length = l.length := by omega
    have ho2 : o.length + 1 ≤ i + 2 + 1 := by omega
    have hk2 : m.length < k := by omega
    have w1 : wrap64 (1 - 0) = 1 := wrap64_id (by omega) (by omega)
    show groatref03_Put.l0 (k + 1 + 1) _ _ _ _ = _
    rw [groatref03_Put.l0, if_pos (by rw [size_sb]; exact b0), if_pos b1, if_pos rfl, ints_length, if_pos b6, bt_drop hm, rp_one da, ints_snoc o _ b7, w1, wrap64_succ b2, ref03_half l hl m o _ k (i + 1) b hm1 db b9 b8]
    have := ref03_Put_l l hl hd m (o ++ [u8 (16 * (a.toNat - 48) + (b.toNat - 48))]) k (i + 2) hm2 hi2 hm4 (by rw [List.length_append]; exact ho2) hk2
    rw [this, pack]; simp
theorem ref03_Put (l : List UInt8) (hl : l.length ≤ 140737488351232) (k : Nat) (hk : l.length + 1010 < k) : groatref03_Put.f k (sb l) = some (sb (bcdPut l).1, (bcdPut l).2) := by
  obtain ⟨k, rfl⟩ : ∃ m, k = m + 3 := ⟨k - 3, by omega⟩
  unfold groatref03_Put.f bcdPut
  by_cases h1 : 999 < l.length
  · rw [if_pos (by rw [size_sb]; omega), if_pos (.inl h1)]; simp [groatref03_Put.j0, empty_sb]
  · rw [if_neg (by rw [size_sb]; omega), ref01_All l hl _ (by omega), Option.bind_some]
    cases hd : l.all dig with
    | false => rw [if_pos (.inr rfl)]; simp [groatref03_Put.j0, empty_sb]
    | true =>
      rw [if_neg (by simp; omega)]
      show groatref03_Put.j0 (k + 1 + 1 + 1) _ _ = _
      rw [groatref03_Put.j0]
      simp only [Bool.not_true, Bool.false_eq_true, if_false, Option.bind_some]
      rw [size_sb]
      by_cases h2 : l.length % 2 = 0
      · have e : even0 l = l := if_pos h2
        have e2 : ((l.length : Nat) : Int) % 2 = 0 := by omega
        rw [if_neg (by omega), groatref03_Put.j1, e, e2]
        exact ref03_Put_l l (by omega) hd l [] (k + 1) 0 rfl (by simp) h2 (Nat.zero_le _) (by omega)
      · have e : even0 l = u8 48 :: l := if_neg h2
        have e2 : ((l.length : Nat) : Int) % 2 = 1 := by omega
        rw [if_pos (by omega), if_pos (by simp), groatref03_Put.j1, e, e2]
        match l, hd, h2, h1, hk with
        | [], _, h2, _, _ => simp at h2
        | b :: m, hd, h2, h1, hk =>
          rw [List.all_cons, Bool.and_eq_true] at hd
          rw [List.length_cons] at h2 h1 hk
          have hall : (b :: m).all dig = true := by rw [List.all_cons, hd.1, hd.2]; rfl
          have hlen : (b :: m).length ≤ 2000 := by rw [List.length_cons]; omega
          have h3 := ref03_half (b :: m) hlen m [] 0 k 0 b rfl hd.1 (by omega) (by simp)
          have h4 := ref03_Put_l (b :: m) hlen hall m [u8 (b.toNat - 48)] k 1 rfl (by rw [List.length_cons]; omega) (by omega) (by simp) (by omega)
          have e3 : (([] : List Int) ++ [0]) = ints (([] : List UInt8) ++ [u8 (16 * 0)]) := by decide
          rw [e3]
          refine h3.trans ?_
          rw [show (([] : List UInt8) ++ [u8 (16 * 0 + (b.toNat - 48))]) = [u8 (b.toNat - 48)] by simp]
          refine h4.trans ?_
          rw [pack, u8_toNat 48 (by decide)]; simp
end Go.Proofs.Ytfaeodcapagjbaa.Sp
