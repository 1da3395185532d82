/- What the reference's Response answers. -/
import Derived.Test.YtncchgjoikeenaaR15
import Derived.Test.YtncchgjoikeenaaR01p
import Derived.Test.YtncchgjoikeenaaPx3
namespace Go.Proofs.Ytncchgjoikeenaa.Sp
open Go.RowKit Go.Proofs.YtncchgjoikeenaaW.PrintWords Go.Proofs.YtncchgjoikeenaaW.PrintLast Go.Proofs.YtncchgjoikeenaaW.PrintMore Go.Proofs.Ytncchgjoikeenaa.P
theorem ref15_Response (a b c d : UInt8) (h : asks [a, b, c, d] = true) (k : Nat) (hk : 20 ≤ k) : groatref15_Response.f k (sb [a, b, c, d]) = some (sb [a, b, u8 (c.toNat + 1), d]) := by
  obtain ⟨a', b', c', d', e, hr, ha, hb, hd, hc⟩ := asks_four h
  injection e with e1 e; injection e with e2 e; injection e with e3 e; injection e with e4 e
  subst e1 e2 e3 e4
  have hal : [a, b, c, d].all dig = true := by simp only [right, Bool.and_eq_true] at hr; exact hr.2
  unfold groatref15_Response.f
  rw [ref01_Get _ (by simp) k (by simp; omega), Option.bind_some]
  have eg : getNum [a, b, c, d] = (((num [a, b, c, d] : Nat) : Int), true) := by unfold getNum; rw [if_neg (by rw [hal]; simp)]
  have ha' := (dig_iff a).1 ha
  have hb' := (dig_iff b).1 hb
  have hd' := (dig_iff d).1 hd
  have hi := inc_dig c hc
  have hb2 : num [a, b, c, d] ≤ 9999 := by rw [num4]; omega
  have en : num [a, b, c, d] + 10 = num [a, b, u8 (c.toNat + 1), d] := by rw [num4, num4, hi]; omega
  have hal2 : [a, b, u8 (c.toNat + 1), d].all dig = true := by
    have : dig (u8 (c.toNat + 1)) = true := by rw [dig_iff, hi]; omega
    simp [ha, hb, hd, this]
  have hlt := num_lt _ hal2
  have b9 : num [a, b, u8 (c.toNat + 1), d] ≤ 9223372036854775807 := by rw [← en]; omega
  have ew : wrap64 (((num [a, b, c, d] : Nat) : Int) + 10) = ((num [a, b, u8 (c.toNat + 1), d] : Nat) : Int) := by rw [← en]; exact (wrap64_nat (by rw [en]; exact b9))
  rw [eg]
  simp only []
  rw [ew, ref01_Put _ _ (by simp at hlt; omega) k hk, Option.bind_some]
  unfold putNum
  rw [if_neg (by simp at hlt ⊢; omega)]
  have := digs_num 4 [a, b, u8 (c.toNat + 1), d] rfl hal2
  show some (sb (digs 4 (num [a, b, u8 (c.toNat + 1), d]))) = _
  rw [this]
end Go.Proofs.Ytncchgjoikeenaa.Sp
