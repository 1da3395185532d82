/- What the reference's functions on MTIs answer. -/
import Derived.Test.YtncchgjoikeenaaMti
import Derived.Test.YtncchgjoikeenaaR01g
import Derived.Test.YtncchgjoikeenaaPx2
namespace Go.Proofs.Ytncchgjoikeenaa.Sp
open Go.RowKit Go.Proofs.YtncchgjoikeenaaW.PrintWords Go.Proofs.YtncchgjoikeenaaW.PrintLast Go.Proofs.YtncchgjoikeenaaW.PrintMore Go.Proofs.Ytncchgjoikeenaa.P
theorem ref15_Right (l : List UInt8) (hl : l.length ≤ 140737488351232) (k : Nat) (hk : l.length < k) : groatref15_Right.f k (sb l) = some (right l) := by
  unfold groatref15_Right.f right
  by_cases h : l.length = 4
  · rw [if_pos (by rw [size_sb]; omega), ref01_All l hl k hk]; simp [h]
  · rw [if_neg (by rw [size_sb]; omega)]; simp [h]
theorem num4 (a b c d : UInt8) : num [a, b, c, d] = 10 * (10 * (10 * (10 * 0 + (a.toNat - 48)) + (b.toNat - 48)) + (c.toNat - 48)) + (d.toNat - 48) := rfl
theorem ref15_Request (l : List UInt8) (hl : l.length ≤ 140737488351232) (k : Nat) (hk : l.length + 1 < k) : groatref15_Request.f k (sb l) = some (asks l) := by
  unfold groatref15_Request.f
  rw [ref01_Get l hl k hk, Option.bind_some]
  unfold getNum
  by_cases h : l.length < 1 ∨ 18 < l.length ∨ l.all dig = false
  · rw [if_pos h]
    have hr : right l = false := by
      cases hr : right l with
      | false => rfl
      | true =>
        obtain ⟨a, b, c, d, rfl, ha, hb, hc, hd⟩ := four hr
        simp [ha, hb, hc, hd] at h
    simp [asks, hr]
  · rw [if_neg h]
    simp only [if_true]
    by_cases h4 : l.length = 4
    · rw [if_pos (by rw [size_sb]; omega)]
      have hr : right l = true := by simp only [right, h4, decide_true, Bool.true_and]; cases hd : l.all dig; (exact absurd (.inr (.inr hd)) h); rfl
      obtain ⟨a, b, c, d, rfl, ha, hb, hc, hd⟩ := four hr
      have ha := (dig_iff a).1 ha
      have hb := (dig_iff b).1 hb
      have hc := (dig_iff c).1 hc
      have hd := (dig_iff d).1 hd
      have hn : num [a, b, c, d] / 10 % 10 = c.toNat - 48 := by rw [num4]; omega
      have hb' : num [a, b, c, d] ≤ 9999 := by rw [num4]; omega
      have b1 : num [a, b, c, d] / 10 ≤ 9223372036854775807 := by omega
      have e0 : Int.tdiv ((num [a, b, c, d] : Nat) : Int) 10 = ((num [a, b, c, d] / 10 : Nat) : Int) := tdiv_nat _ 10
      have e1 : wrap64 ((num [a, b, c, d] / 10 : Nat) : Int) = ((num [a, b, c, d] / 10 : Nat) : Int) := wrap64_nat b1
      have e2 : Int.tmod ((num [a, b, c, d] / 10 : Nat) : Int) 10 = ((c.toNat - 48 : Nat) : Int) := (tmod_nat _ 10).trans (by rw [hn])
      rw [e0, e1, e2]
      clear e0 e1 e2
      by_cases h1 : c.toNat = 48
      · rw [if_pos (by omega)]; simp [asks, hr, h1]
      · rw [if_neg (by omega)]
        by_cases h2 : c.toNat = 50
        · simp [asks, hr, h2]
        · have : (((c.toNat - 48 : Nat) : Int) == 2) = false := by simp; omega
          rw [this]; simp [asks, hr, h1, h2]
    · rw [if_neg (by rw [size_sb]; omega)]; simp [asks, right, h4]
end Go.Proofs.Ytncchgjoikeenaa.Sp
