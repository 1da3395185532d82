-- written for this claim by wip/pp.py
import Derived.Test.YtfaeodcapagjbaaRows
import Derived.Test.YtfaeodcapagjbaaPx24
import Derived.Test.YtfaeodcapagjbaaPureCellParts
import Derived.Test.YtfaeodcapagjbaaOpn
import Derived.WalkKit
import Derived.ProofKit
import Derived.OpenShut
import Derived.ShutString
import Derived.ChangeOld
import Derived.Below
import Derived.SizedLaws
namespace Go.Proofs.Ytfaeodcapagjbaa.cellParts
open Go.ChangeShapes Go.WideShapes Go.ChangeAt Go.RowKit Go.Proofs.YtfaeodcapagjbaaW.PrintWords Go.Proofs.Ytfaeodcapagjbaa.P
open Go.ChangeMaps (open_string shut_string)
set_option linter.unusedVariables false
theorem own : ownKnob Try.prog.godebug = none := by kernel_rfl
theorem laidOut : laidOutB Try.prog = true := by kernel_rfl
theorem walk (P : groatlaw12_CellParts.Pure) (w : World) (x0 : S23) (cs0 : Array Value) (K0 : k23.K w x0 cs0.toList) (q0 : Q23 x0) (x1 : ByteArray) (q1 : x1.size ≤ 140737488351232) (x2 : S43) (cs2 : Array Value) (K2 : k43.K w x2 cs2.toList) (q2 : Q43 x2) :
    Calls Try.prog 12 #[.agg cs0, .string x1, .agg cs2] w fun e w' => e = .returned (.bool true) ∧ Below w.heap.size w w' := by
  have e0 := k23_open K0
  obtain rfl : cs0 = #[.int .i64 x0.f0, .int .i64 x0.f1, .int .i64 x0.f2, .int .i64 x0.f3, .int .i64 x0.f4] := by apply Array.ext'; exact e0
  clear K0 e0
  have e2 := k43_open K2
  obtain rfl : cs2 = #[.string x2.f0, .string x2.f1] := by apply Array.ext'; exact e2
  clear K2 e2
  obtain ⟨k, h⟩ := P x0 x1 x2 q0 q1 q2
  refine (groatlaw12_CellParts.calls (k := k) (a0_0 := x0.f0) (a0_1 := x0.f1) (a0_2 := x0.f2) (a0_3 := x0.f3) (a0_4 := x0.f4) (a1 := x1) (a2_0 := x2.f0) (a2_1 := x2.f1) (r := true) (w := w) (h := h)).mono ?_
  rintro e w' ⟨rfl, hd⟩
  exact ⟨rfl, hd⟩
set_option maxRecDepth 100000 in
theorem lifted (os : Os) (started : os.Started) (H : Type) (enc : TypeId × Value → H) :
    ReturnsInHanded {} Try.checked os 12 .any (Rows.cellPartsSpec.pre6 enc Try.prog Try.f12 Rows.cellPartsRow.domain false) (Rows.cellPartsSpec.post enc Try.prog Try.f12 false true false false) := by
  refine returnsInHanded_of_change_sized (C := Try.checked) own started (by kernel_rfl) Try.func12
    (ChangeSpec.witness6 (enc := enc) (C := Try.checked) false ⟨#[], #[.agg #[(.int .i64 0), (.int .i64 0), (.int .i64 0), (.int .i64 0), (.int .i64 0)], .string ByteArray.empty, .agg #[(.string ⟨#[]⟩), (.string ⟨#[]⟩)]], []⟩ 8 (by kernel_rfl) (by kernel_rfl) (by kernel_rfl) (by kernel_rfl)) ?_
  intro W base args ds gs before hval0 hW hcnd hsz0 _
  have hsz : (DataW.weightsEach Try.prog (Try.f12.params.toList ++ Rows.cellPartsSpec.plain.varTypes Try.prog) (ds ++ gs)).all (· ≤ reachBytes) = true := hsz0
  have hval : ∀ (j : Nat) t v, Try.f12.params[j]? = some t → args[j]? = some v → Value.okWide Try.prog W .any base t v := hval0
  have hW' := hW
  obtain ⟨p, q, hA0, hV, rfl, hfz, hnd⟩ := hW
  have hA : DataW.TrodAll enc Try.prog W 0 (fun _ => true) true Try.f12.params.toList args.toList ds p := hA0
  rw [Try.params12] at hA hval hsz
  obtain ⟨v0, vs0, d0, ds0, p0, pq0, hargs, rfl, rfl, h0, r0⟩ := trodAll_cons hA
  obtain ⟨v1, vs1, d1, ds1, p1, pq1, rfl, rfl, rfl, h1, r1⟩ := trodAll_cons r0
  obtain ⟨v2, vs2, d2, ds2, p2, pq2, rfl, rfl, rfl, h2, r2⟩ := trodAll_cons r1
  obtain ⟨rfl, rfl, rfl⟩ := trodAll_nil r2
  obtain rfl : args = #[v0, v1, v2] := by cases args; simp_all
  obtain ⟨rfl, rfl⟩ := trodVars_none hV
  obtain ⟨cs0, rfl, -⟩ := okWide_struct Try.underlying22 (hval 0 23 v0 rfl rfl)
  have k0 := h0
  have lt0 : ∀ x ∈ p0, x.block < W.heap.size := by obtain ⟨m, hm⟩ := k0; exact DataW.trod_lt m _ _ _ hm
  obtain ⟨x0, K0, q0⟩ := Opn.opn_arg (W := W) (j := 0) (opn23 W) hsz rfl rfl h0
  obtain ⟨a1, rfl, rfl, rfl, y1⟩ := open_string Try.underlying9 (hval 1 9 v1 rfl rfl) h1
  have w1 : a1.size ≤ 140737488351232 := by
    have z := sized_string hsz (j := 1) (t := 9) rfl rfl
    rw [Array.length_toList] at z
    exact z
  obtain ⟨cs2, rfl⟩ : ∃ cs, v2 = .agg cs := by have z := (hval 2 43 v2 rfl rfl); simp only [Value.okWide, Try.underlying43] at z; obtain ⟨cs, rfl, -⟩ := z; exact ⟨cs, rfl⟩
  have k2 := h2
  have lt2 : ∀ x ∈ p2, x.block < W.heap.size := by obtain ⟨m, hm⟩ := k2; exact DataW.trod_lt m _ _ _ hm
  obtain ⟨x2, K2, q2⟩ := Opn.opn_arg (W := W) (j := 2) (opn43 W) hsz rfl rfl h2
  clear hA0 hval0 hsz0 hsz
  refine (walk Pure.CellParts W x0 cs0 K0 q0 a1 w1 x2 cs2 K2 q2).mono fun e W' ⟨he, bel⟩ => ?_
  subst he
  exact ⟨_, rfl, _, _, _, [], _, [], hW', trodAll_mk1 (shut_bool Try.underlying4 _), (trodAll_cons_mk (Below.trod laidOut (by kernel_rfl) (of_decide_eq_true (by kernel_rfl)) k0 bel lt0) (trodAll_cons_mk (shut_string Try.underlying9 y1) (trodAll_cons_mk (Below.trod laidOut (by kernel_rfl) (of_decide_eq_true (by kernel_rfl)) k2 bel lt2) trodAll_mk0))), rfl, bel.frame _, fun h => by cases h⟩
theorem over : Rows.cellPartsRow.holds Try.pinned (OpenSpec.ofChange Rows.cellPartsSpec) :=
  OpenClaim.holds_of_wide 12 Try.f12 rfl rfl rfl rfl rfl rfl rfl ⟨rfl, rfl, rfl, rfl, rfl⟩ rfl rfl rfl rfl rfl (by kernel_rfl) Try.func12 (by kernel_rfl)
    (of_decide_eq_true (by kernel_rfl)) (by unfold Func.isWrapper; first | (rw [if_pos (by decide +kernel)]; kernel_rfl) | (rw [if_neg (by decide +kernel)]; exact ⟨rfl, rfl⟩))
    (fun os started H enc _ => lifted os started H enc)
theorem proved : Rows.CellPartsSaid := over
#print axioms proved
end Go.Proofs.Ytfaeodcapagjbaa.cellParts
namespace Go.Proofs.Ytfaeodcapagjbaa
/-- The row, under a short name, for the claim. -/
theorem cellParts_holds : Rows.CellPartsSaid := cellParts.proved
end Go.Proofs.Ytfaeodcapagjbaa
