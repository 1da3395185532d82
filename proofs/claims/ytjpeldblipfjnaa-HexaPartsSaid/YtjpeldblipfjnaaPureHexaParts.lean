/- HexaParts: bytes that are put one behind the other are both, put together. No conditions beyond the statement's own. -/
import Derived.Test.YtjpeldblipfjnaaHexa
import Derived.Test.YtjpeldblipfjnaaPx3
namespace Go.Proofs.Ytjpeldblipfjnaa.Pure
open Go.RowKit Go.Proofs.Ytjpeldblipfjnaa.P Go.Proofs.YtjpeldblipfjnaaW.PrintWords Go.Proofs.YtjpeldblipfjnaaW.PrintLast Go.Proofs.Ytjpeldblipfjnaa.Sp
theorem awake02 : groatlaw02_awake.f 30 = some true := by decide +kernel
theorem hparts (l m : List UInt8) (hl : l.length ≤ 1000) (hm : m.length ≤ 1000) (k : Nat) (hk : l.length + m.length < k) : groatlaw02_HexaParts.j0 (k + 1) (sb l) (sb m) false = some true := by
  have b1 : l.length + m.length ≤ 9223372036854775807 := by omega
  have b2 : (l ++ m).length ≤ 35184372088832 := by rw [List.length_append]; omega
  have b3 : (l ++ m).length < k := by rw [List.length_append]; omega
  have b4 : (hexPut l).length + (hexPut m).length ≤ 9223372036854775807 := by rw [hexPut_length, hexPut_length]; omega
  simp only [groatlaw02_HexaParts.j0]
  rw [if_neg (by decide), size_sb, size_sb, if_pos b1, sb_append, hexa_Put _ b2 _ b3, Option.bind_some, hexa_Put l (by omega) _ (by omega), Option.bind_some, hexa_Put m (by omega) _ (by omega), Option.bind_some, size_sb, size_sb, if_pos b4, hexPut_append, sb_append]; simp
theorem HexaParts : groatlaw02_HexaParts.Pure := by
  intro s t hs ht
  obtain ⟨l, rfl⟩ := ex_sb s
  obtain ⟨m, rfl⟩ := ex_sb t
  have aw : ∀ k, 30 ≤ k → groatlaw02_awake.f k = some true := fun k hk => at_rounds groatlaw02_awake.mono hk awake02
  have jt : groatlaw02_HexaParts.j0 (l.length + m.length + 60) (sb l) (sb m) true = some true := by
    simp only [groatlaw02_HexaParts.j0, if_true]
    rw [aw _ (by omega)]; rfl
  refine ⟨l.length + m.length + 60, ?_⟩
  unfold groatlaw02_HexaParts.f
  rw [aw _ (by omega), Option.bind_some, if_pos rfl, size_sb, size_sb]
  by_cases h1 : (l.length : Int) > 1000
  · rw [if_pos h1, jt]
  · rw [if_neg h1]
    by_cases h2 : (m.length : Int) > 1000
    · rw [decide_eq_true h2, jt]
    · rw [decide_eq_false h2]; exact hparts l m (by omega) (by omega) (l.length + m.length + 59) (by omega)
end Go.Proofs.Ytjpeldblipfjnaa.Pure
