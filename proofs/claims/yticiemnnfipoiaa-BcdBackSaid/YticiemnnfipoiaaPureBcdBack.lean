/- BcdBack: digits that are packed are got as they were, whatever stands behind, and take just as many bytes as Size tells. No conditions beyond the statement's own. -/
import Derived.Test.YticiemnnfipoiaaBcd
import Derived.Test.YticiemnnfipoiaaR01a
import Derived.Test.YticiemnnfipoiaaPx4
namespace Go.Proofs.Yticiemnnfipoiaa.Pure
open Go.RowKit Go.Proofs.Yticiemnnfipoiaa.P Go.Proofs.YticiemnnfipoiaaW.PrintWords Go.Proofs.YticiemnnfipoiaaW.PrintLast Go.Proofs.Yticiemnnfipoiaa.Sp
theorem awake03 : groatlaw03_awake.f 30 = some true := by decide +kernel
theorem bback (l m : List UInt8) (hl : l.length ≤ 999) (hm : m.length ≤ 100) (hd : l.all dig = true) (k : Nat) (hk : 1200 < k) : groatlaw03_BcdBack.j0 (k + 1) (sb l) (sb m) false = some true := by
  have b1 : (pack (even0 l)).length + m.length ≤ 9223372036854775807 := by rw [pack_len]; omega
  have e : bcdPut l = (pack (even0 l), true) := if_neg (by rw [hd]; simp; omega)
  simp only [groatlaw03_BcdBack.j0]
  rw [if_neg (by decide), bcd_Put l (by omega) k (by omega), Option.bind_some, e]
  simp only [if_true]
  rw [size_sb, size_sb, if_pos b1, sb_append, size_sb, bcd_Get _ _ (by omega) k (by omega), Option.bind_some, bcdGet_put l m hl hd, bcd_Size l.length (by omega), Option.bind_some, pack_len]
  simp
theorem BcdBack : groatlaw03_BcdBack.Pure := by
  intro s t hs ht
  obtain ⟨l, rfl⟩ := ex_sb s
  obtain ⟨m, rfl⟩ := ex_sb t
  rw [size_sb] at hs
  have aw : ∀ k, 30 ≤ k → groatlaw03_awake.f k = some true := fun k hk => at_rounds groatlaw03_awake.mono hk awake03
  have jt : groatlaw03_BcdBack.j0 (l.length + 1300) (sb l) (sb m) true = some true := by
    simp only [groatlaw03_BcdBack.j0, if_true]
    rw [aw _ (by omega)]; rfl
  refine ⟨l.length + 1300, ?_⟩
  unfold groatlaw03_BcdBack.f
  rw [aw _ (by omega), Option.bind_some, if_pos rfl, size_sb, size_sb]
  by_cases h1 : (l.length : Int) > 999
  · rw [if_pos h1, jt]
  · rw [if_neg h1]
    by_cases h2 : (m.length : Int) > 100
    · rw [if_pos h2, jt]
    · rw [if_neg h2, ref01_All l hs _ (by omega), Option.bind_some]
      cases hd : l.all dig with
      | false => exact jt
      | true => exact bback l m (by omega) (by omega) hd (l.length + 1299) (by omega)
end Go.Proofs.Yticiemnnfipoiaa.Pure
