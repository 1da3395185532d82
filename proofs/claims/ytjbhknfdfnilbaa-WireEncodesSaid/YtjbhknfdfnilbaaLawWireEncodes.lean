-- written for this claim by wip/xrow.py
import Derived.Test.YtjbhknfdfnilbaaRows
import Derived.Test.YtjbhknfdfnilbaaXop
import Derived.Test.YtjbhknfdfnilbaaLWireEncodes
import Derived.WalkKit
import Derived.ProofKit
import Derived.OpenShut
import Derived.ShutString
import Derived.ChangeOld
import Derived.Below
import Derived.SizedLaws
namespace Go.Proofs.Ytjbhknfdfnilbaa.wireEncodes
open Go.ChangeShapes Go.WideShapes Go.ChangeAt Go.RowKit Go.Proofs.Ytjbhknfdfnilbaa.Xe
open Go.ChangeMaps (open_string shut_string)
set_option linter.unusedVariables false
theorem own : ownKnob Try.prog.godebug = none := by kernel_rfl
theorem laidOut : laidOutB Try.prog = true := by kernel_rfl
set_option maxRecDepth 100000 in
theorem lifted (os : Os) (started : os.Started) (H : Type) (enc : TypeId × Value → H) :
    ReturnsInHanded {} Try.checked os 4 .any (Rows.wireEncodesSpec.pre6 enc Try.prog Try.f4 Rows.wireEncodesRow.domain false) (Rows.wireEncodesSpec.post enc Try.prog Try.f4 false true false false) := by
  refine returnsInHanded_of_change_sized (C := Try.checked) own started (by kernel_rfl) Try.func4
    (ChangeSpec.witness6 (enc := enc) (C := Try.checked) false ⟨#[], #[(.agg #[(.int .i64 0), (.int .i64 0), (.slice none 0 0)]), (.agg #[(.string ByteArray.empty), (.slice none 0 0)])], []⟩ 8 (by kernel_rfl) (by kernel_rfl) (by kernel_rfl) (by kernel_rfl)) ?_
  intro W base args ds gs before hval0 hW hcnd hsz0 _
  have hsz : (DataW.weightsEach Try.prog (Try.f4.params.toList ++ Rows.wireEncodesSpec.plain.varTypes Try.prog) (ds ++ gs)).all (· ≤ reachBytes) = true := hsz0
  have hval : ∀ (j : Nat) t v, Try.f4.params[j]? = some t → args[j]? = some v → Value.okWide Try.prog W .any base t v := hval0
  have hW' := hW
  obtain ⟨p, q, hA0, hV, rfl, hfz, hnd⟩ := hW
  have hA : DataW.TrodAll enc Try.prog W 0 (fun _ => true) true Try.f4.params.toList args.toList ds p := hA0
  rw [Try.params4] at hA hval hsz
  obtain ⟨v0, vs0, d0, ds0, p0, pq0, hargs, rfl, rfl, h0, r0⟩ := trodAll_cons hA
  obtain ⟨v1, vs1, d1, ds1, p1, pq1, rfl, rfl, rfl, h1, r1⟩ := trodAll_cons r0
  obtain ⟨rfl, rfl, rfl⟩ := trodAll_nil r1
  obtain rfl : args = #[v0, v1] := by cases args; simp_all
  obtain ⟨rfl, rfl⟩ := trodVars_none hV
  obtain ⟨cs0, rfl⟩ : ∃ cs, v0 = .agg cs := by have z := (hval 0 30 v0 rfl rfl); simp only [Value.okWide, Try.underlying30] at z; obtain ⟨cs, rfl, -⟩ := z; exact ⟨cs, rfl⟩
  have k0 := h0
  have lt0 : ∀ x ∈ p0, x.block < W.heap.size := by obtain ⟨m, hm⟩ := k0; exact DataW.trod_lt m _ _ _ hm
  obtain ⟨x0, K0, q0⟩ := opn_arg (W := W) (j := 0) (ty := (.pair (.int .i64) (.pair (.int .i64) (.sl (.pair (.int .i64) (.pair (.int .i64) (.pair (.int .i64) (.pair (.int .i64) (.int .i64))))))))) (opn_struct Try.underlying30 (by kernel_rfl) (by kernel_rfl) (opnL_cons (by kernel_rfl) (opn_int Try.underlying3) (opnL_cons (by kernel_rfl) (opn_int Try.underlying3) (opnL_one (by kernel_rfl) (opn_slice Try.underlying28 (by kernel_rfl) (of_decide_eq_true (by kernel_rfl)) (by decide) (opn_struct Try.underlying51 (by kernel_rfl) (by kernel_rfl) (opnL_cons (by kernel_rfl) (opn_int Try.underlying3) (opnL_cons (by kernel_rfl) (opn_int Try.underlying3) (opnL_cons (by kernel_rfl) (opn_int Try.underlying3) (opnL_cons (by kernel_rfl) (opn_int Try.underlying3) (opnL_one (by kernel_rfl) (opn_int Try.underlying3)))))))))))) hsz rfl rfl h0
  obtain ⟨cs1, rfl⟩ : ∃ cs, v1 = .agg cs := by have z := (hval 1 33 v1 rfl rfl); simp only [Value.okWide, Try.underlying33] at z; obtain ⟨cs, rfl, -⟩ := z; exact ⟨cs, rfl⟩
  have k1 := h1
  have lt1 : ∀ x ∈ p1, x.block < W.heap.size := by obtain ⟨m, hm⟩ := k1; exact DataW.trod_lt m _ _ _ hm
  obtain ⟨x1, K1, q1⟩ := opn_arg (W := W) (j := 1) (ty := (.pair .str (.sl (.pair (.int .i64) .str)))) (opn_struct Try.underlying33 (by kernel_rfl) (by kernel_rfl) (opnL_cons (by kernel_rfl) (opn_string Try.underlying9) (opnL_one (by kernel_rfl) (opn_slice Try.underlying31 (by kernel_rfl) (of_decide_eq_true (by kernel_rfl)) (by decide) (opn_struct Try.underlying47 (by kernel_rfl) (by kernel_rfl) (opnL_cons (by kernel_rfl) (opn_int Try.underlying3) (opnL_one (by kernel_rfl) (opn_string Try.underlying9)))))))) hsz rfl rfl h1
  clear hA0 hval0 hsz0 hsz
  obtain ⟨n, hn⟩ := groatlaw17_WireEncodes.holds (x0, x1) ⟨q0, q1⟩
  refine (law_calls (W := W) (C := groatlaw17_WireEncodes.C) (fn := Try.f4) (c := groatlaw17_WireEncodes.code) (sg := groatlaw17_WireEncodes.sg) (x := (x0, x1)) (by show TabOk _ tab; exact tabOk) groatlaw17_WireEncodes.ok mixed Try.func4 (by kernel_rfl) hn ⟨_, _, rfl, ⟨cs0, rfl, K0⟩, ⟨_, rfl, ⟨cs1, rfl, K1⟩⟩⟩).mono fun e W' ⟨he, bel⟩ => ?_
  subst he
  exact ⟨_, rfl, _, _, _, [], _, [], hW', trodAll_mk1 (shut_bool Try.underlying4 _), (trodAll_cons_mk (Below.trod laidOut (by kernel_rfl) (of_decide_eq_true (by kernel_rfl)) k0 bel lt0) (trodAll_cons_mk (Below.trod laidOut (by kernel_rfl) (of_decide_eq_true (by kernel_rfl)) k1 bel lt1) trodAll_mk0)), rfl, bel.frame _, fun h => by cases h⟩
theorem over : Rows.wireEncodesRow.holds Try.pinned (OpenSpec.ofChange Rows.wireEncodesSpec) :=
  OpenClaim.holds_of_wide 4 Try.f4 rfl rfl rfl rfl rfl rfl rfl ⟨rfl, rfl, rfl, rfl, rfl⟩ rfl rfl rfl rfl rfl (by kernel_rfl) Try.func4 (by kernel_rfl)
    (of_decide_eq_true (by kernel_rfl)) (by unfold Func.isWrapper; first | (rw [if_pos (by decide +kernel)]; kernel_rfl) | (rw [if_neg (by decide +kernel)]; exact ⟨rfl, rfl⟩))
    (fun os started H enc _ => lifted os started H enc)
theorem proved : Rows.WireEncodesSaid := over
#print axioms proved
end Go.Proofs.Ytjbhknfdfnilbaa.wireEncodes
namespace Go.Proofs.Ytjbhknfdfnilbaa
/-- The row, under a short name, for the claim. -/
theorem wireEncodes_holds : Rows.WireEncodesSaid := wireEncodes.proved
end Go.Proofs.Ytjbhknfdfnilbaa
