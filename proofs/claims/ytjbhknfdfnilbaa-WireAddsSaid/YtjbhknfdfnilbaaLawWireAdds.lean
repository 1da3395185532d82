-- written for this claim by wip/xrow.py
import Derived.Test.YtjbhknfdfnilbaaRows
import Derived.Test.YtjbhknfdfnilbaaXop
import Derived.Test.YtjbhknfdfnilbaaLWireAdds
import Derived.WalkKit
import Derived.ProofKit
import Derived.OpenShut
import Derived.ShutString
import Derived.ChangeOld
import Derived.Below
import Derived.SizedLaws
namespace Go.Proofs.Ytjbhknfdfnilbaa.wireAdds
open Go.ChangeShapes Go.WideShapes Go.ChangeAt Go.RowKit Go.Proofs.Ytjbhknfdfnilbaa.Xe
open Go.ChangeMaps (open_string shut_string)
set_option linter.unusedVariables false
theorem own : ownKnob Try.prog.godebug = none := by kernel_rfl
theorem laidOut : laidOutB Try.prog = true := by kernel_rfl
set_option maxRecDepth 100000 in
theorem lifted (os : Os) (started : os.Started) (H : Type) (enc : TypeId × Value → H) :
    ReturnsInHanded {} Try.checked os 6 .any (Rows.wireAddsSpec.pre6 enc Try.prog Try.f6 Rows.wireAddsRow.domain false) (Rows.wireAddsSpec.post enc Try.prog Try.f6 false true false false) := by
  refine returnsInHanded_of_change_sized (C := Try.checked) own started (by kernel_rfl) Try.func6
    (ChangeSpec.witness6 (enc := enc) (C := Try.checked) false ⟨#[], #[(.agg #[(.int .i64 0), (.int .i64 0), (.slice none 0 0)]), (.agg #[(.string ByteArray.empty), (.slice none 0 0)]), (.agg #[(.int .i64 0), (.string ByteArray.empty)])], []⟩ 8 (by kernel_rfl) (by kernel_rfl) (by kernel_rfl) (by kernel_rfl)) ?_
  intro W base args ds gs before hval0 hW hcnd hsz0 _
  have hsz : (DataW.weightsEach Try.prog (Try.f6.params.toList ++ Rows.wireAddsSpec.plain.varTypes Try.prog) (ds ++ gs)).all (· ≤ reachBytes) = true := hsz0
  have hval : ∀ (j : Nat) t v, Try.f6.params[j]? = some t → args[j]? = some v → Value.okWide Try.prog W .any base t v := hval0
  have hW' := hW
  obtain ⟨p, q, hA0, hV, rfl, hfz, hnd⟩ := hW
  have hA : DataW.TrodAll enc Try.prog W 0 (fun _ => true) true Try.f6.params.toList args.toList ds p := hA0
  rw [Try.params6] at hA hval hsz
  obtain ⟨v0, vs0, d0, ds0, p0, pq0, hargs, rfl, rfl, h0, r0⟩ := trodAll_cons hA
  obtain ⟨v1, vs1, d1, ds1, p1, pq1, rfl, rfl, rfl, h1, r1⟩ := trodAll_cons r0
  obtain ⟨v2, vs2, d2, ds2, p2, pq2, rfl, rfl, rfl, h2, r2⟩ := trodAll_cons r1
  obtain ⟨rfl, rfl, rfl⟩ := trodAll_nil r2
  obtain rfl : args = #[v0, v1, v2] := by cases args; simp_all
  obtain ⟨rfl, rfl⟩ := trodVars_none hV
  obtain ⟨cs0, rfl⟩ : ∃ cs, v0 = .agg cs := by have z := (hval 0 30 v0 rfl rfl); simp only [Value.okWide, Try.underlying30] at z; obtain ⟨cs, rfl, -⟩ := z; exact ⟨cs, rfl⟩
  have k0 := h0
  have lt0 : ∀ x ∈ p0, x.block < W.heap.size := by obtain ⟨m, hm⟩ := k0; exact DataW.trod_lt m _ _ _ hm
  obtain ⟨x0, K0, q0⟩ := opn_arg (W := W) (j := 0) (ty := (.pair (.int .i64) (.pair (.int .i64) (.sl (.pair (.int .i64) (.pair (.int .i64) (.pair (.int .i64) (.pair (.int .i64) (.int .i64))))))))) (opn_struct Try.underlying30 (by kernel_rfl) (by kernel_rfl) (opnL_cons (by kernel_rfl) (opn_int Try.underlying3) (opnL_cons (by kernel_rfl) (opn_int Try.underlying3) (opnL_one (by kernel_rfl) (opn_slice Try.underlying28 (by kernel_rfl) (of_decide_eq_true (by kernel_rfl)) (by decide) (opn_struct Try.underlying51 (by kernel_rfl) (by kernel_rfl) (opnL_cons (by kernel_rfl) (opn_int Try.underlying3) (opnL_cons (by kernel_rfl) (opn_int Try.underlying3) (opnL_cons (by kernel_rfl) (opn_int Try.underlying3) (opnL_cons (by kernel_rfl) (opn_int Try.underlying3) (opnL_one (by kernel_rfl) (opn_int Try.underlying3)))))))))))) hsz rfl rfl h0
  obtain ⟨cs1, rfl⟩ : ∃ cs, v1 = .agg cs := by have z := (hval 1 33 v1 rfl rfl); simp only [Value.okWide, Try.underlying33] at z; obtain ⟨cs, rfl, -⟩ := z; exact ⟨cs, rfl⟩
  have k1 := h1
  have lt1 : ∀ x ∈ p1, x.block < W.heap.size := by obtain ⟨m, hm⟩ := k1; exact DataW.trod_lt m _ _ _ hm
  obtain ⟨x1, K1, q1⟩ := opn_arg (W := W) (j := 1) (ty := (.pair .str (.sl (.pair (.int .i64) .str)))) (opn_struct Try.underlying33 (by kernel_rfl) (by kernel_rfl) (opnL_cons (by kernel_rfl) (opn_string Try.underlying9) (opnL_one (by kernel_rfl) (opn_slice Try.underlying31 (by kernel_rfl) (of_decide_eq_true (by kernel_rfl)) (by decide) (opn_struct Try.underlying47 (by kernel_rfl) (by kernel_rfl) (opnL_cons (by kernel_rfl) (opn_int Try.underlying3) (opnL_one (by kernel_rfl) (opn_string Try.underlying9)))))))) hsz rfl rfl h1
  obtain ⟨cs2, rfl⟩ : ∃ cs, v2 = .agg cs := by have z := (hval 2 47 v2 rfl rfl); simp only [Value.okWide, Try.underlying47] at z; obtain ⟨cs, rfl, -⟩ := z; exact ⟨cs, rfl⟩
  have k2 := h2
  have lt2 : ∀ x ∈ p2, x.block < W.heap.size := by obtain ⟨m, hm⟩ := k2; exact DataW.trod_lt m _ _ _ hm
  obtain ⟨x2, K2, q2⟩ := opn_arg (W := W) (j := 2) (ty := (.pair (.int .i64) .str)) (opn_struct Try.underlying47 (by kernel_rfl) (by kernel_rfl) (opnL_cons (by kernel_rfl) (opn_int Try.underlying3) (opnL_one (by kernel_rfl) (opn_string Try.underlying9)))) hsz rfl rfl h2
  clear hA0 hval0 hsz0 hsz
  obtain ⟨n, hn⟩ := groatlaw17_WireAdds.holds (x0, x1, x2) ⟨q0, q1, q2⟩
  refine (law_calls (W := W) (C := groatlaw17_WireAdds.C) (fn := Try.f6) (c := groatlaw17_WireAdds.code) (sg := groatlaw17_WireAdds.sg) (x := (x0, x1, x2)) (by show TabOk _ tab; exact tabOk) groatlaw17_WireAdds.ok mixed Try.func6 (by kernel_rfl) hn ⟨_, _, rfl, ⟨cs0, rfl, K0⟩, ⟨_, _, rfl, ⟨cs1, rfl, K1⟩, ⟨_, rfl, ⟨cs2, rfl, K2⟩⟩⟩⟩).mono fun e W' ⟨he, bel⟩ => ?_
  subst he
  exact ⟨_, rfl, _, _, _, [], _, [], hW', trodAll_mk1 (shut_bool Try.underlying4 _), (trodAll_cons_mk (Below.trod laidOut (by kernel_rfl) (of_decide_eq_true (by kernel_rfl)) k0 bel lt0) (trodAll_cons_mk (Below.trod laidOut (by kernel_rfl) (of_decide_eq_true (by kernel_rfl)) k1 bel lt1) (trodAll_cons_mk (Below.trod laidOut (by kernel_rfl) (of_decide_eq_true (by kernel_rfl)) k2 bel lt2) trodAll_mk0))), rfl, bel.frame _, fun h => by cases h⟩
theorem over : Rows.wireAddsRow.holds Try.pinned (OpenSpec.ofChange Rows.wireAddsSpec) :=
  OpenClaim.holds_of_wide 6 Try.f6 rfl rfl rfl rfl rfl rfl rfl ⟨rfl, rfl, rfl, rfl, rfl⟩ rfl rfl rfl rfl rfl (by kernel_rfl) Try.func6 (by kernel_rfl)
    (of_decide_eq_true (by kernel_rfl)) (by unfold Func.isWrapper; first | (rw [if_pos (by decide +kernel)]; kernel_rfl) | (rw [if_neg (by decide +kernel)]; exact ⟨rfl, rfl⟩))
    (fun os started H enc _ => lifted os started H enc)
theorem proved : Rows.WireAddsSaid := over
#print axioms proved
end Go.Proofs.Ytjbhknfdfnilbaa.wireAdds
namespace Go.Proofs.Ytjbhknfdfnilbaa
/-- The row, under a short name, for the claim. -/
theorem wireAdds_holds : Rows.WireAddsSaid := wireAdds.proved
end Go.Proofs.Ytjbhknfdfnilbaa
