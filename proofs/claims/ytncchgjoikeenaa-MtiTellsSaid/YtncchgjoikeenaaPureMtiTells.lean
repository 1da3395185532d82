/- MtiTells: any text is an MTI, with its version, and asks, or not, as the document says. No conditions beyond the statement's own. -/
import Derived.Test.YtncchgjoikeenaaR15
import Derived.Test.YtncchgjoikeenaaPx2
namespace Go.Proofs.Ytncchgjoikeenaa.Pure
open Go.RowKit Go.Proofs.Ytncchgjoikeenaa.P Go.Proofs.YtncchgjoikeenaaW.PrintWords Go.Proofs.YtncchgjoikeenaaW.PrintLast Go.Proofs.Ytncchgjoikeenaa.Sp
theorem awake15 : groatlaw15_awake.f = some true := by decide +kernel
theorem MtiTells : groatlaw15_MtiTells.Pure := by
  intro s hs
  obtain ⟨l, rfl⟩ := ex_sb s
  rw [size_sb] at hs
  refine ⟨l.length + 10, ?_⟩
  unfold groatlaw15_MtiTells.f
  rw [awake15, Option.bind_some, if_pos rfl]
  simp only [groatlaw15_MtiTells.j0]
  by_cases h1 : decide (((sb l).size : Int) > 100) = true
  · rw [if_pos h1, awake15]; rfl
  · rw [if_neg h1, ref15_Right l hs _ (by omega), mti_Right, mti_Request, ref15_Request l hs _ (by omega)]
    cases h : right l with
    | false => rw [mti_Version_no l h]; simp
    | true =>
      obtain ⟨a, b, c, d, rfl, ha, hb, hc, hd⟩ := four h
      rw [mti_Version_yes a b c d h ha]
      have e : bt (sb [a, b, c, d]) 0 = (a.toNat : Int) := bt_sb _ 0
      have := (dig_iff a).1 ha
      have e1 : wrap64 (a.toNat : Int) = a.toNat := wrap64_id (by omega) (by omega)
      have e2 : wrap64 ((a.toNat : Int) - 48) = (a.toNat : Int) - 48 := wrap64_id (by omega) (by omega)
      have e3 : 0 < ((sb [a, b, c, d]).size : Int) := by rw [size_sb]; simp
      simp only [Option.bind_some, beq_self_eq_true, if_true]
      rw [if_pos e3, e, e1, e2]; simp
end Go.Proofs.Ytncchgjoikeenaa.Pure
