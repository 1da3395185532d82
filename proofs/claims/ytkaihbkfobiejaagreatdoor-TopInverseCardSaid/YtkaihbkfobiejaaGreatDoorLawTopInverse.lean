-- written for this claim by wip/xrow.py
import Derived.Test.YtkaihbkfobiejaaGreatDoorRows
import Derived.Test.YtkaihbkfobiejaaGreatDoorXop
import Derived.Test.YtkaihbkfobiejaaGreatDoorLTopInverse
import Derived.Test.YtkaihbkfobiejaaGreatDoorCards
import Derived.Test.YtkaihbkfobiejaaGreatDoorTie
import Derived.WalkKit
import Derived.ProofKit
import Derived.OpenShut
import Derived.ShutString
import Derived.ChangeOld
import Derived.Below
import Derived.SizedLaws
import Derived.LaidMore
import Derived.Lay
import Derived.SevenTiedAt
import Derived.Stop.Joined
namespace Go.Proofs.YtkaihbkfobiejaaGreatDoor.topInverse
open Go.ChangeShapes Go.WideShapes Go.ChangeAt Go.RowKit Go.Proofs.YtkaihbkfobiejaaGreatDoor.Xe
open Go.ChangeMaps (open_string shut_string)
set_option linter.unusedVariables false
theorem own : ownKnob Tryz.prog.godebug = none := by kernel_rfl
theorem laidOut : laidOutB Tryz.prog = true := by kernel_rfl
set_option maxRecDepth 100000 in
theorem lifted (os : Os) (started : os.Started) (H : Type) (enc : TypeId × Value → H) :
    ReturnsInHanded {} Tryz.checked os 6 .any (fun w args => (Rows.topInverseSpec.pre enc Tryz.prog Tryz.f6 Rows.topInverseRow.domain false w args ∧ laidMetH Tryz.prog Rows.topInverseRow.laid w) ∧ sizedMet enc Tryz.prog Tryz.f6 (OpenSpec.ofChange Rows.topInverseSpec) false w args) (Rows.topInverseSpec.post enc Tryz.prog Tryz.f6 false true false false) := by
  refine returnsInHanded_of_change_and (C := Tryz.checked) (X := fun w _ => laidMetH Tryz.prog Rows.topInverseRow.laid w) (fun _ _ _ hh h => h.of_heap hh) own started (by kernel_rfl) Tryz.func6
    (ChangeSpec.witness_shaped (enc := enc) (C := Tryz.checked) (os := os) (X := fun w _ => laidMetH Tryz.prog Rows.topInverseRow.laid w) false (World.laidAll Tryz.prog os Rows.topInverseRow.laid) #[(.agg #[(.slice none 0 0), (.slice none 0 0)]), (.agg #[(.int .i64 0), (.int .i64 0), (.slice none 0 0), (.int .i64 0), (.int .i64 0), (.slice none 0 0)]), (.agg #[(.string ByteArray.empty), (.slice none 0 0)])] 8 (World.laidAll_os _ _ _)
      (World.shaped_of_ZipB (by kernel_rfl) (by kernel_rfl)) (by kernel_rfl) (by kernel_rfl) (by kernel_rfl)
      (by rw [MakeChecks.laidMetH_plain _ _ _ (by kernel_rfl)]; exact laidMet_laidAll _ (by kernel_rfl) (by kernel_rfl))) ?_
  intro W base args ds gs before hval0 hW hcnd hsz0 hL _
  have hsz : (DataW.weightsEach Tryz.prog (Tryz.f6.params.toList ++ Rows.topInverseSpec.plain.varTypes Tryz.prog) (ds ++ gs)).all (· ≤ reachBytes) = true := hsz0
  have hval : ∀ (j : Nat) t v, Tryz.f6.params[j]? = some t → args[j]? = some v → Value.okWide Tryz.prog W .any base t v := hval0
  have hW' := hW
  obtain ⟨p, q, hA0, hV, rfl, hfz, hnd⟩ := hW
  have hA : DataW.TrodAll enc Tryz.prog W 0 (fun _ => true) true Tryz.f6.params.toList args.toList ds p := hA0
  rw [Tryz.params6] at hA hval hsz
  obtain ⟨v0, vs0, d0, ds0, p0, pq0, hargs, rfl, rfl, h0, r0⟩ := trodAll_cons hA
  obtain ⟨v1, vs1, d1, ds1, p1, pq1, rfl, rfl, rfl, h1, r1⟩ := trodAll_cons r0
  obtain ⟨v2, vs2, d2, ds2, p2, pq2, rfl, rfl, rfl, h2, r2⟩ := trodAll_cons r1
  obtain ⟨rfl, rfl, rfl⟩ := trodAll_nil r2
  obtain rfl : args = #[v0, v1, v2] := by cases args; simp_all
  obtain ⟨rfl, rfl⟩ := trodVars_none hV
  obtain ⟨cs0, rfl⟩ : ∃ cs, v0 = .agg cs := by have z := (hval 0 61 v0 rfl rfl); simp only [Value.okWide, Tryz.underlying61] at z; obtain ⟨cs, rfl, -⟩ := z; exact ⟨cs, rfl⟩
  have k0 := h0
  have lt0 : ∀ x ∈ p0, x.block < W.heap.size := by obtain ⟨m, hm⟩ := k0; exact DataW.trod_lt m _ _ _ hm
  obtain ⟨x0, K0, q0⟩ := opn_arg (W := W) (j := 0) (ty := (.pair (.sl (.pair .str .str)) (.sl (.pair (.int .i64) (.pair (.int .i64) (.pair (.int .i64) (.pair .str (.sl (.pair .str .str))))))))) (opn_struct Tryz.underlying61 (by kernel_rfl) (by kernel_rfl) (opnL_cons (by kernel_rfl) (opn_slice Tryz.underlying58 (by kernel_rfl) (of_decide_eq_true (by kernel_rfl)) (by decide) (opn_struct Tryz.underlying132 (by kernel_rfl) (by kernel_rfl) (opnL_cons (by kernel_rfl) (opn_string Tryz.underlying9) (opnL_one (by kernel_rfl) (opn_string Tryz.underlying9))))) (opnL_one (by kernel_rfl) (opn_slice Tryz.underlying59 (by kernel_rfl) (of_decide_eq_true (by kernel_rfl)) (by decide) (opn_struct Tryz.underlying135 (by kernel_rfl) (by kernel_rfl) (opnL_cons (by kernel_rfl) (opn_int Tryz.underlying3) (opnL_cons (by kernel_rfl) (opn_int Tryz.underlying3) (opnL_cons (by kernel_rfl) (opn_int Tryz.underlying3) (opnL_cons (by kernel_rfl) (opn_string Tryz.underlying9) (opnL_one (by kernel_rfl) (opn_slice Tryz.underlying58 (by kernel_rfl) (of_decide_eq_true (by kernel_rfl)) (by decide) (opn_struct Tryz.underlying132 (by kernel_rfl) (by kernel_rfl) (opnL_cons (by kernel_rfl) (opn_string Tryz.underlying9) (opnL_one (by kernel_rfl) (opn_string Tryz.underlying9))))))))))))))) hsz rfl rfl h0
  obtain ⟨cs1, rfl⟩ : ∃ cs, v1 = .agg cs := by have z := (hval 1 62 v1 rfl rfl); simp only [Value.okWide, Tryz.underlying62] at z; obtain ⟨cs, rfl, -⟩ := z; exact ⟨cs, rfl⟩
  have k1 := h1
  have lt1 : ∀ x ∈ p1, x.block < W.heap.size := by obtain ⟨m, hm⟩ := k1; exact DataW.trod_lt m _ _ _ hm
  obtain ⟨x1, K1, q1⟩ := opn_arg (W := W) (j := 1) (ty := (.pair (.pair (.int .i64) (.pair (.int .i64) (.sl (.pair (.int .i64) (.pair (.int .i64) (.pair (.int .i64) (.pair (.int .i64) (.int .i64)))))))) (.pair (.int .i64) (.pair (.int .i64) (.sl (.pair (.int .i64) (.pair (.int .i64) (.pair (.int .i64) (.pair (.int .i64) (.int .i64)))))))))) (opn_array Tryz.underlying62 (by kernel_rfl) (by kernel_rfl) (opnL_cons (by kernel_rfl) (opn_struct Tryz.underlying24 (by kernel_rfl) (by kernel_rfl) (opnL_cons (by kernel_rfl) (opn_int Tryz.underlying3) (opnL_cons (by kernel_rfl) (opn_int Tryz.underlying3) (opnL_one (by kernel_rfl) (opn_slice Tryz.underlying22 (by kernel_rfl) (of_decide_eq_true (by kernel_rfl)) (by decide) (opn_struct Tryz.underlying107 (by kernel_rfl) (by kernel_rfl) (opnL_cons (by kernel_rfl) (opn_int Tryz.underlying3) (opnL_cons (by kernel_rfl) (opn_int Tryz.underlying3) (opnL_cons (by kernel_rfl) (opn_int Tryz.underlying3) (opnL_cons (by kernel_rfl) (opn_int Tryz.underlying3) (opnL_one (by kernel_rfl) (opn_int Tryz.underlying3)))))))))))) (opnL_one (by kernel_rfl) (opn_struct Tryz.underlying24 (by kernel_rfl) (by kernel_rfl) (opnL_cons (by kernel_rfl) (opn_int Tryz.underlying3) (opnL_cons (by kernel_rfl) (opn_int Tryz.underlying3) (opnL_one (by kernel_rfl) (opn_slice Tryz.underlying22 (by kernel_rfl) (of_decide_eq_true (by kernel_rfl)) (by decide) (opn_struct Tryz.underlying107 (by kernel_rfl) (by kernel_rfl) (opnL_cons (by kernel_rfl) (opn_int Tryz.underlying3) (opnL_cons (by kernel_rfl) (opn_int Tryz.underlying3) (opnL_cons (by kernel_rfl) (opn_int Tryz.underlying3) (opnL_cons (by kernel_rfl) (opn_int Tryz.underlying3) (opnL_one (by kernel_rfl) (opn_int Tryz.underlying3))))))))))))))) hsz rfl rfl h1
  obtain ⟨cs2, rfl⟩ : ∃ cs, v2 = .agg cs := by have z := (hval 2 27 v2 rfl rfl); simp only [Value.okWide, Tryz.underlying27] at z; obtain ⟨cs, rfl, -⟩ := z; exact ⟨cs, rfl⟩
  have k2 := h2
  have lt2 : ∀ x ∈ p2, x.block < W.heap.size := by obtain ⟨m, hm⟩ := k2; exact DataW.trod_lt m _ _ _ hm
  obtain ⟨x2, K2, q2⟩ := opn_arg (W := W) (j := 2) (ty := (.pair .str (.sl (.pair (.int .i64) .str)))) (opn_struct Tryz.underlying27 (by kernel_rfl) (by kernel_rfl) (opnL_cons (by kernel_rfl) (opn_string Tryz.underlying9) (opnL_one (by kernel_rfl) (opn_slice Tryz.underlying25 (by kernel_rfl) (of_decide_eq_true (by kernel_rfl)) (by decide) (opn_struct Tryz.underlying49 (by kernel_rfl) (by kernel_rfl) (opnL_cons (by kernel_rfl) (opn_int Tryz.underlying3) (opnL_one (by kernel_rfl) (opn_string Tryz.underlying9)))))))) hsz rfl rfl h2
  clear hA0 hval0 hsz0 hsz
  obtain ⟨n, hn⟩ := groattop_TopInverse.holds (x0, x1, x2) ⟨q0, q1, q2⟩
  refine (law_calls (W := W) (C := groattop_TopInverse.C) (fn := Tryz.f6) (c := groattop_TopInverse.code) (sg := groattop_TopInverse.sg) (x := (x0, x1, x2)) (by show TabOk _ tab; exact tabOk) groattop_TopInverse.ok mixed Tryz.func6 (by kernel_rfl) hn ⟨_, _, rfl, ⟨cs0, rfl, K0⟩, ⟨_, _, rfl, ⟨cs1, rfl, K1⟩, ⟨_, rfl, ⟨cs2, rfl, K2⟩⟩⟩⟩).mono fun e W' ⟨he, bel⟩ => ?_
  subst he
  exact ⟨_, rfl, _, _, _, [], _, [], hW', trodAll_mk1 (shut_bool Tryz.underlying4 _), (trodAll_cons_mk (Below.trod laidOut (by kernel_rfl) (of_decide_eq_true (by kernel_rfl)) k0 bel lt0) (trodAll_cons_mk (Below.trod laidOut (by kernel_rfl) (of_decide_eq_true (by kernel_rfl)) k1 bel lt1) (trodAll_cons_mk (Below.trod laidOut (by kernel_rfl) (of_decide_eq_true (by kernel_rfl)) k2 bel lt2) trodAll_mk0))), rfl, bel.frame _, fun h => by cases h⟩
theorem over : Rows.topInverseRow.holds Tryz.pinned (OpenSpec.ofChange Rows.topInverseSpec) :=
  OpenClaim.holds_of_wide 6 Tryz.f6 rfl rfl rfl rfl rfl rfl rfl ⟨rfl, rfl, rfl, rfl, rfl⟩ rfl rfl rfl rfl rfl (by kernel_rfl) Tryz.func6 (by kernel_rfl)
    (of_decide_eq_true (by kernel_rfl)) (by unfold Func.isWrapper; first | (rw [if_pos (by decide +kernel)]; kernel_rfl) | (rw [if_neg (by decide +kernel)]; exact ⟨rfl, rfl⟩))
    (fun os started H enc _ => lifted os started H enc)
theorem proved : Rows.TopInverseCardSaid :=
  Claim7.holds_tied_plain_at .later [] [.data, .pinned] true (true, "b7ca414a2153b8e4df3ff7ddd4f42c1c4a0b6aded2e5335350d13949f4940010") false over (fun _ h => by cases h) (by kernel_rfl) (fun _ h => by cases h) topInverse_row_tie rfl ⟨rfl, rfl⟩ (by kernel_rfl) rfl
    (fun f fn hf hfn => by
      obtain rfl : f = 6 := Option.some.inj ((show Tryz.prog.funcNamed "groat/groattop.TopInverse" = some 6 by kernel_rfl).symm.trans hf) |>.symm
      obtain rfl : fn = Tryz.f6 := (Option.some.inj (Tryz.func6.symm.trans hfn)).symm
      exact ⟨by kernel_rfl, fun j t ht => by
        rw [Tryz.params6] at ht
        have hm : t ∈ [61, 62, 27] := by simpa using Array.mem_of_getElem? ht
        have hall : ([61, 62, 27].all fun u => !Tryz.prog.wantsStandIn u) = true := by kernel_rfl
        exact (show Tryz.prog.wantsStandIn t = false by simpa using List.all_eq_true.1 hall t hm)⟩)
    (by kernel_rfl)
#print axioms proved
end Go.Proofs.YtkaihbkfobiejaaGreatDoor.topInverse
namespace Go.Proofs.YtkaihbkfobiejaaGreatDoor
/-- The row, under a short name, for the claim. -/
theorem topInverse_holds : Rows.TopInverseCardSaid := topInverse.proved
end Go.Proofs.YtkaihbkfobiejaaGreatDoor
