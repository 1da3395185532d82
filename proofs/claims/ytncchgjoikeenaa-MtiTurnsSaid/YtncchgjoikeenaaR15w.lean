/- What the reference's With answers. -/
import Derived.Test.YtncchgjoikeenaaR15
import Derived.Test.YtncchgjoikeenaaR01p
import Derived.Test.YtncchgjoikeenaaPx3
namespace Go.Proofs.Ytncchgjoikeenaa.Sp
open Go.RowKit Go.Proofs.YtncchgjoikeenaaW.PrintWords Go.Proofs.YtncchgjoikeenaaW.PrintLast Go.Proofs.YtncchgjoikeenaaW.PrintMore Go.Proofs.Ytncchgjoikeenaa.P
theorem ref15_With (a b c d : UInt8) (v : Nat) (hv : v ≤ 9) (k : Nat) (hk : 20 ≤ k) : groatref15_With.f k (sb [a, b, c, d]) (v : Int) = some (sb [u8 (48 + v), b, c, d]) := by
  unfold groatref15_With.f
  rw [ref01_Put _ _ (by omega) k hk, Option.bind_some]
  have e : putNum (v : Int) 1 = (sb [u8 (48 + v)], true) := by
    unfold putNum
    rw [if_neg (by simp; omega)]
    have : v % 10 = v := by omega
    simp [digs, this]
  rw [e, if_pos (by rw [size_sb]; simp), sb_extract, size_sb, size_sb, size_sb, if_pos (by simp), sb_append]; rfl
end Go.Proofs.Ytncchgjoikeenaa.Sp
