/- BcdOrder: of as many digits each, packed ones compare as the digits do. No conditions beyond the statement's own. -/
import Derived.Test.YticiemnnfipoiaaBcd
import Derived.Test.YticiemnnfipoiaaR01a
import Derived.Test.YticiemnnfipoiaaPx5
namespace Go.Proofs.Yticiemnnfipoiaa.Pure
open Go.RowKit Go.Proofs.Yticiemnnfipoiaa.P Go.Proofs.YticiemnnfipoiaaW.PrintWords Go.Proofs.YticiemnnfipoiaaW.PrintLast Go.Proofs.Yticiemnnfipoiaa.Sp
theorem awake03 : groatlaw03_awake.f 30 = some true := by decide +kernel
theorem u8_lt_iff (a b : UInt8) : (a < b) ↔ a.toNat < b.toNat := UInt8.lt_iff_toNat_lt
theorem less_pack : ∀ (l m : List UInt8), l.length = m.length → l.length % 2 = 0 → l.all dig = true → m.all dig = true → Op.bytesLess (pack l) (pack m) = Op.bytesLess l m ∧ ((pack l == pack m) = (l == m))
  | [], [], _, _, _, _ => ⟨rfl, rfl⟩
  | [], _ :: _, h, _, _, _ => by simp at h
  | _ :: _, [], h, _, _, _ => by simp at h
  | [_], _, _, h, _, _ => by simp at h
  | _ :: _ :: _, [_], h, _, _, _ => by simp at h
  | a :: b :: l, c :: d :: m, h, h2, hl, hm => by
    simp only [List.all_cons, Bool.and_eq_true] at hl hm
    have h3 : l.length = m.length := by simpa using h
    have h4 : l.length % 2 = 0 := by rw [List.length_cons, List.length_cons] at h2; omega
    obtain ⟨i1, i2⟩ := less_pack l m h3 h4 hl.2.2 hm.2.2
    have ha := (dig_iff a).1 hl.1
    have hb := (dig_iff b).1 hl.2.1
    have hc := (dig_iff c).1 hm.1
    have hd := (dig_iff d).1 hm.2.1
    have k1 : u8 (16 * (a.toNat - 48) + (b.toNat - 48)) < u8 (16 * (c.toNat - 48) + (d.toNat - 48)) ↔ (a < c ∨ (a = c ∧ b < d)) := by
      rw [u8_lt_iff, u8_toNat _ (by omega), u8_toNat _ (by omega), u8_lt_iff, u8_lt_iff, ← UInt8.toNat_inj]; omega
    have k2 : u8 (16 * (a.toNat - 48) + (b.toNat - 48)) = u8 (16 * (c.toNat - 48) + (d.toNat - 48)) ↔ (a = c ∧ b = d) := by
      rw [← UInt8.toNat_inj, u8_toNat _ (by omega), u8_toNat _ (by omega), ← UInt8.toNat_inj, ← UInt8.toNat_inj]; omega
    constructor
    · rw [pack, pack, Op.bytesLess, Op.bytesLess, Op.bytesLess, i1, Bool.eq_iff_iff]
      simp only [Bool.or_eq_true, Bool.and_eq_true, decide_eq_true_eq, beq_iff_eq, k1, k2]
      constructor
      · rintro ((h | ⟨h, h'⟩) | ⟨⟨h, h'⟩, h''⟩)
        · exact .inl h
        · exact .inr ⟨h, .inl h'⟩
        · exact .inr ⟨h, .inr ⟨h', h''⟩⟩
      · rintro (h | ⟨h, h' | ⟨h', h''⟩⟩)
        · exact .inl (.inl h)
        · exact .inl (.inr ⟨h, h'⟩)
        · exact .inr ⟨⟨h, h'⟩, h''⟩
    · rw [pack, pack, List.cons_beq_cons, List.cons_beq_cons, List.cons_beq_cons, i2, Bool.eq_iff_iff]
      simp only [Bool.and_eq_true, beq_iff_eq, k2]
      exact ⟨fun ⟨⟨h, h'⟩, h''⟩ => ⟨h, h', h''⟩, fun ⟨h, h', h''⟩ => ⟨⟨h, h'⟩, h''⟩⟩
theorem less_even (l m : List UInt8) (h : l.length = m.length) : Op.bytesLess (even0 l) (even0 m) = Op.bytesLess l m ∧ ((even0 l == even0 m) = (l == m)) := by
  unfold even0
  rw [← h]
  split
  · exact ⟨rfl, rfl⟩
  · rw [Op.bytesLess]; simp
theorem border (l m : List UInt8) (h : l.length = m.length) (hl : l.length ≤ 999) (hd : l.all dig = true) (hd2 : m.all dig = true) (k : Nat) (hk : 1200 < k) : groatlaw03_BcdOrder.j0 (k + 1) (sb l) (sb m) false = some true := by
  have e : bcdPut l = (pack (even0 l), true) := if_neg (by rw [hd]; simp; omega)
  have e2 : bcdPut m = (pack (even0 m), true) := if_neg (by rw [hd2]; simp; omega)
  have h1 : (even0 l).length = (even0 m).length := by rw [(even0_len l).2, (even0_len m).2, h]
  obtain ⟨i1, i2⟩ := less_pack (even0 l) (even0 m) h1 (even0_len l).1 (even0_dig hd) (even0_dig hd2)
  obtain ⟨i3, i4⟩ := less_even l m h
  simp only [groatlaw03_BcdOrder.j0]
  rw [if_neg (by decide), bcd_Put l (by omega) k (by omega), Option.bind_some, bcd_Put m (by omega) k (by omega), Option.bind_some, e, e2]
  simp only [if_true, toList_sb]
  rw [i1, i2, i3, i4]; simp
theorem BcdOrder : groatlaw03_BcdOrder.Pure := by
  intro s t hs ht
  obtain ⟨l, rfl⟩ := ex_sb s
  obtain ⟨m, rfl⟩ := ex_sb t
  rw [size_sb] at hs ht
  have aw : ∀ k, 30 ≤ k → groatlaw03_awake.f k = some true := fun k hk => at_rounds groatlaw03_awake.mono hk awake03
  have jt : groatlaw03_BcdOrder.j0 (l.length + m.length + 1300) (sb l) (sb m) true = some true := by
    simp only [groatlaw03_BcdOrder.j0, if_true]
    rw [aw _ (by omega)]; rfl
  refine ⟨l.length + m.length + 1300, ?_⟩
  unfold groatlaw03_BcdOrder.f
  rw [aw _ (by omega), Option.bind_some, if_pos rfl, size_sb, size_sb]
  by_cases h0 : (l.length : Int) = (m.length : Int)
  · rw [if_pos h0]
    by_cases h1 : (l.length : Int) > 999
    · rw [if_pos h1, jt]
    · rw [if_neg h1, ref01_All l hs _ (by omega), Option.bind_some]
      cases hd : l.all dig with
      | false => exact jt
      | true =>
        rw [if_pos rfl, ref01_All m ht _ (by omega), Option.bind_some]
        cases hd2 : m.all dig with
        | false => exact jt
        | true => exact border l m (by omega) (by omega) hd hd2 (l.length + m.length + 1299) (by omega)
  · rw [if_neg h0, jt]
end Go.Proofs.Yticiemnnfipoiaa.Pure
