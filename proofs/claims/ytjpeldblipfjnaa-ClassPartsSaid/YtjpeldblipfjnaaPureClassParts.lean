/- ClassParts: of two texts, one behind the other, the first byte that isn't of a class is the first one's, or else the second one's. No conditions beyond the statement's own. -/
import Derived.Test.YtjpeldblipfjnaaCls
import Derived.Test.YtjpeldblipfjnaaPx6
namespace Go.Proofs.Ytjpeldblipfjnaa.Pure
open Go.RowKit Go.Proofs.Ytjpeldblipfjnaa.P Go.Proofs.YtjpeldblipfjnaaW.PrintWords Go.Proofs.YtjpeldblipfjnaaW.PrintLast Go.Proofs.YtjpeldblipfjnaaW.PrintMore Go.Proofs.Ytjpeldblipfjnaa.Sp
theorem awake04 : groatlaw04_awake.f 20 = some true := by decide +kernel
theorem parts (c : Int) (l m : List UInt8) (hl : l.length ≤ 1000) (hm : m.length ≤ 1000) : groatlaw04_ClassParts.j0 (l.length + m.length + 30) c (sb l) (sb m) false = some true := by
  have b1 : l.length + m.length ≤ 9223372036854775807 := by omega
  have b2 : (l ++ m).length ≤ 140737488351232 := by rw [List.length_append]; omega
  have b3 : (l ++ m).length + 2 < l.length + m.length + 29 := by rw [List.length_append]; omega
  show groatlaw04_ClassParts.j0 (l.length + m.length + 29 + 1) c (sb l) (sb m) false = _
  simp only [groatlaw04_ClassParts.j0]
  rw [if_neg (by decide), class_First c l (by omega) _ (by omega), Option.bind_some, class_First c m (by omega) _ (by omega), Option.bind_some]
  rw [size_sb, size_sb, sb_append, class_First c (l ++ m) b2 _ b3, first_append]
  simp only [b1, if_true, Option.bind_some]
  cases h : l.all (inC c) with
  | false =>
    have := first_not _ l 0 h
    rw [if_neg (by omega), if_neg (by decide)]; simp
  | true =>
    rw [first_all _ l 0 h, if_pos (by decide), if_pos rfl]
    cases h2 : m.all (inC c) with
    | true => rw [first_all _ m 0 h2, first_all _ m _ h2]; rfl
    | false =>
      have := first_not _ m 0 h2
      have e1 : mn (firstFrom (inC c) 0 m) (m.length : Int) = firstFrom (inC c) 0 m := by unfold mn; rw [if_neg (by omega)]
      have b5 : -9223372036854775808 ≤ (l.length : Int) + firstFrom (inC c) 0 m := by omega
      have b6 : (l.length : Int) + firstFrom (inC c) 0 m ≤ 9223372036854775807 := by omega
      have e3 : firstFrom (inC c) 0 m + ((0 + l.length : Nat) : Int) = (l.length : Int) + firstFrom (inC c) 0 m := by omega
      rw [if_pos (by omega), e1, first_shift _ m _ h2, e3, wrap64_id b5 b6]; simp
theorem ClassParts : groatlaw04_ClassParts.Pure := by
  intro c s t hc hs ht
  obtain ⟨l, rfl⟩ := ex_sb s
  obtain ⟨m, rfl⟩ := ex_sb t
  rw [size_sb] at hs ht
  have aw : ∀ k, 20 ≤ k → groatlaw04_awake.f k = some true := fun k hk => at_rounds groatlaw04_awake.mono hk awake04
  refine ⟨l.length + m.length + 30, ?_⟩
  have jt : groatlaw04_ClassParts.j0 (l.length + m.length + 30) c (sb l) (sb m) true = some true := by
    simp only [groatlaw04_ClassParts.j0, if_true]
    rw [aw _ (by omega)]; rfl
  unfold groatlaw04_ClassParts.f
  rw [aw _ (by omega), Option.bind_some, if_pos rfl, size_sb, size_sb]
  by_cases h1 : (l.length : Int) > 1000
  · rw [if_pos h1, jt]
  · rw [if_neg h1]
    by_cases h2 : (m.length : Int) > 1000
    · rw [decide_eq_true h2, jt]
    · rw [decide_eq_false h2]; exact parts c l m (by omega) (by omega)
end Go.Proofs.Ytjpeldblipfjnaa.Pure
