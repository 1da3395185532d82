-- written for this claim by wip/xrow.py
import Derived.Test.YtnhogpbibcgpkaaRows
import Derived.Test.YtnhogpbibcgpkaaXop
import Derived.Test.YtnhogpbibcgpkaaLBitmapBack
import Derived.WalkKit
import Derived.ProofKit
import Derived.OpenShut
import Derived.ShutString
import Derived.ChangeOld
import Derived.Below
import Derived.SizedLaws
namespace Go.Proofs.Ytnhogpbibcgpkaa.bitmapBack
open Go.ChangeShapes Go.WideShapes Go.ChangeAt Go.RowKit Go.Proofs.Ytnhogpbibcgpkaa.Xe
open Go.ChangeMaps (open_string shut_string)
set_option linter.unusedVariables false
theorem own : ownKnob Try.prog.godebug = none := by kernel_rfl
theorem laidOut : laidOutB Try.prog = true := by kernel_rfl
set_option maxRecDepth 100000 in
theorem lifted (os : Os) (started : os.Started) (H : Type) (enc : TypeId × Value → H) :
    ReturnsInHanded {} Try.checked os 5 .any (Rows.bitmapBackSpec.pre6 enc Try.prog Try.f5 Rows.bitmapBackRow.domain false) (Rows.bitmapBackSpec.post enc Try.prog Try.f5 false true false false) := by
  refine returnsInHanded_of_change_sized (C := Try.checked) own started (by kernel_rfl) Try.func5
    (ChangeSpec.witness6 (enc := enc) (C := Try.checked) false ⟨#[], #[(.int .i64 0), (.agg #[(.int .u64 0), (.int .u64 0)]), (.string ByteArray.empty)], []⟩ 8 (by kernel_rfl) (by kernel_rfl) (by kernel_rfl) (by kernel_rfl)) ?_
  intro W base args ds gs before hval0 hW hcnd hsz0 _
  have hsz : (DataW.weightsEach Try.prog (Try.f5.params.toList ++ Rows.bitmapBackSpec.plain.varTypes Try.prog) (ds ++ gs)).all (· ≤ reachBytes) = true := hsz0
  have hval : ∀ (j : Nat) t v, Try.f5.params[j]? = some t → args[j]? = some v → Value.okWide Try.prog W .any base t v := hval0
  have hW' := hW
  obtain ⟨p, q, hA0, hV, rfl, hfz, hnd⟩ := hW
  have hA : DataW.TrodAll enc Try.prog W 0 (fun _ => true) true Try.f5.params.toList args.toList ds p := hA0
  rw [Try.params5] at hA hval hsz
  obtain ⟨v0, vs0, d0, ds0, p0, pq0, hargs, rfl, rfl, h0, r0⟩ := trodAll_cons hA
  obtain ⟨v1, vs1, d1, ds1, p1, pq1, rfl, rfl, rfl, h1, r1⟩ := trodAll_cons r0
  obtain ⟨v2, vs2, d2, ds2, p2, pq2, rfl, rfl, rfl, h2, r2⟩ := trodAll_cons r1
  obtain ⟨rfl, rfl, rfl⟩ := trodAll_nil r2
  obtain rfl : args = #[v0, v1, v2] := by cases args; simp_all
  obtain ⟨rfl, rfl⟩ := trodVars_none hV
  obtain ⟨a0, rfl, rfl, rfl, w0⟩ := open_int Try.underlying3 (hval 0 3 v0 rfl rfl) h0
  obtain ⟨cs1, rfl⟩ : ∃ cs, v1 = .agg cs := by have z := (hval 1 42 v1 rfl rfl); simp only [Value.okWide, Try.underlying42] at z; obtain ⟨cs, rfl, -⟩ := z; exact ⟨cs, rfl⟩
  have k1 := h1
  have lt1 : ∀ x ∈ p1, x.block < W.heap.size := by obtain ⟨m, hm⟩ := k1; exact DataW.trod_lt m _ _ _ hm
  obtain ⟨x1, K1, q1⟩ := opn_arg (W := W) (j := 1) (ty := (.pair (.int .u64) (.int .u64))) (opn_array Try.underlying42 (by kernel_rfl) (by kernel_rfl) (opnL_cons (by kernel_rfl) (opn_int Try.underlying22) (opnL_one (by kernel_rfl) (opn_int Try.underlying22)))) hsz rfl rfl h1
  obtain ⟨a2, rfl, rfl, rfl, y2⟩ := open_string Try.underlying9 (hval 2 9 v2 rfl rfl) h2
  have w2 : a2.size ≤ 140737488351232 := by
    have z := sized_string hsz (j := 2) (t := 9) rfl rfl
    rw [Array.length_toList] at z
    exact z
  clear hA0 hval0 hsz0 hsz
  obtain ⟨n, hn⟩ := groatlaw06_BitmapBack.holds (a0, x1, a2) ⟨w0, q1, w2⟩
  refine (law_calls (W := W) (C := groatlaw06_BitmapBack.C) (fn := Try.f5) (c := groatlaw06_BitmapBack.code) (sg := groatlaw06_BitmapBack.sg) (x := (a0, x1, a2)) (by show TabOk _ tab; exact tabOk) groatlaw06_BitmapBack.ok mixed Try.func5 (by kernel_rfl) hn ⟨_, _, rfl, rfl, ⟨_, _, rfl, ⟨cs1, rfl, K1⟩, ⟨_, rfl, rfl⟩⟩⟩).mono fun e W' ⟨he, bel⟩ => ?_
  subst he
  exact ⟨_, rfl, _, _, _, [], _, [], hW', trodAll_mk1 (shut_bool Try.underlying4 _), (trodAll_cons_mk (shut_int Try.underlying3 w0) (trodAll_cons_mk (Below.trod laidOut (by kernel_rfl) (of_decide_eq_true (by kernel_rfl)) k1 bel lt1) (trodAll_cons_mk (shut_string Try.underlying9 y2) trodAll_mk0))), rfl, bel.frame _, fun h => by cases h⟩
theorem over : Rows.bitmapBackRow.holds Try.pinned (OpenSpec.ofChange Rows.bitmapBackSpec) :=
  OpenClaim.holds_of_wide 5 Try.f5 rfl rfl rfl rfl rfl rfl rfl ⟨rfl, rfl, rfl, rfl, rfl⟩ rfl rfl rfl rfl rfl (by kernel_rfl) Try.func5 (by kernel_rfl)
    (of_decide_eq_true (by kernel_rfl)) (by unfold Func.isWrapper; first | (rw [if_pos (by decide +kernel)]; kernel_rfl) | (rw [if_neg (by decide +kernel)]; exact ⟨rfl, rfl⟩))
    (fun os started H enc _ => lifted os started H enc)
theorem proved : Rows.BitmapBackSaid := over
#print axioms proved
end Go.Proofs.Ytnhogpbibcgpkaa.bitmapBack
namespace Go.Proofs.Ytnhogpbibcgpkaa
/-- The row, under a short name, for the claim. -/
theorem bitmapBack_holds : Rows.BitmapBackSaid := bitmapBack.proved
end Go.Proofs.Ytnhogpbibcgpkaa
