import Derived.Test.YtkaihbkfobiejaaGreatDoorRows
import Derived.Test.YtkaihbkfobiejaaGreatDoorZ6
import Derived.Test.YtkaihbkfobiejaaGreatDoorZ26
import Derived.Test.YtkaihbkfobiejaaGreatDoorCards
import Derived.Test.YtkaihbkfobiejaaGreatDoorTie
import Derived.WalkKit
import Derived.ProofKit
import Derived.OpenShut
import Derived.ShutString
import Derived.ChangeOld
import Derived.Below
import Derived.SizedLaws
import Derived.LaidMore
import Derived.Lay
import Derived.SevenTiedAt
import Derived.Stop.Joined
namespace Go.Proofs.YtkaihbkfobiejaaGreatDoor.topLinks
open Go.ChangeShapes Go.WideShapes Go.ChangeAt Go.RowKit Go.Proofs.YtkaihbkfobiejaaGreatDoor.Xe
open Go.ChangeMaps (open_string shut_string)
set_option linter.unusedVariables false
theorem own : ownKnob Tryz.prog.godebug = none := by kernel_rfl
theorem laidOut : laidOutB Tryz.prog = true := by kernel_rfl
set_option maxRecDepth 100000 in
theorem lifted (os : Os) (started : os.Started) (H : Type) (enc : TypeId × Value → H) :
  ReturnsInHanded {} Tryz.checked os 7 .any (fun w args => (Rows.topLinksSpec.pre enc Tryz.prog Tryz.f7 Rows.topLinksRow.domain false w args ∧ laidMetH Tryz.prog Rows.topLinksRow.laid w) ∧ sizedMet enc Tryz.prog Tryz.f7 (OpenSpec.ofChange Rows.topLinksSpec) false w args) (Rows.topLinksSpec.post enc Tryz.prog Tryz.f7 false true false false) := by
 refine returnsInHanded_of_change_and (C := Tryz.checked) (X := fun w _ => laidMetH Tryz.prog Rows.topLinksRow.laid w) (fun _ _ _ hh h => h.of_heap hh) own started (by kernel_rfl) Tryz.func7
  (ChangeSpec.witness_shaped (enc := enc) (C := Tryz.checked) (os := os) (X := fun w _ => laidMetH Tryz.prog Rows.topLinksRow.laid w) false (World.laidAll Tryz.prog os Rows.topLinksRow.laid) #[(.agg #[(.int .i64 0), (.int .i64 0), (.slice none 0 0), (.slice none 0 0), (.slice none 0 0), (.slice none 0 0), (.slice none 0 0), (.int .i64 0), (.int .i64 0), (.slice none 0 0), (.slice none 0 0), (.slice none 0 0), (.slice none 0 0), (.slice none 0 0), (.int .i64 0)]), (.slice none 0 0)] 8 (World.laidAll_os _ _ _)
   (World.shaped_of_ZipB (by kernel_rfl) (by kernel_rfl)) (by kernel_rfl) (by kernel_rfl) (by kernel_rfl)
   (by rw [MakeChecks.laidMetH_plain _ _ _ (by kernel_rfl)]; exact laidMet_laidAll _ (by kernel_rfl) (by kernel_rfl))) ?_
 intro W base args ds gs before hval0 hW hcnd hsz0 hL _
 have hsz : (DataW.weightsEach Tryz.prog (Tryz.f7.params.toList ++ Rows.topLinksSpec.plain.varTypes Tryz.prog) (ds ++ gs)).all (· ≤ reachBytes) = true := hsz0
 have hval : ∀ (j : Nat) t v, Tryz.f7.params[j]? = some t → args[j]? = some v → Value.okWide Tryz.prog W .any base t v := hval0
 have hW' := hW
 obtain ⟨p, q, hA0, hV, rfl, hfz, hnd⟩ := hW
 have hA : DataW.TrodAll enc Tryz.prog W 0 (fun _ => true) true Tryz.f7.params.toList args.toList ds p := hA0
 rw [Tryz.params7] at hA hval hsz
 obtain ⟨v0, vs0, d0, ds0, p0, pq0, hargs, rfl, rfl, h0, r0⟩ := trodAll_cons hA
 obtain ⟨v1, vs1, d1, ds1, p1, pq1, rfl, rfl, rfl, h1, r1⟩ := trodAll_cons r0
 obtain ⟨rfl, rfl, rfl⟩ := trodAll_nil r1
 obtain rfl : args = #[v0, v1] := by cases args; simp_all
 obtain ⟨rfl, rfl⟩ := trodVars_none hV
 obtain ⟨cs0, rfl⟩ : ∃ cs, v0 = .agg cs := by have z := (hval 0 74 v0 rfl rfl); simp only [Value.okWide, Tryz.underlying74] at z; obtain ⟨cs, rfl, -⟩ := z; exact ⟨cs, rfl⟩
 have k0 := h0
 have lt0 : ∀ x ∈ p0, x.block < W.heap.size := by obtain ⟨m, hm⟩ := k0; exact DataW.trod_lt m _ _ _ hm
 obtain ⟨x0, K0, q0⟩ := opn_arg (W := W) (j := 0) (ty := (.pair (.pair (.pair (.pair (.int .i64) (.pair (.int .i64) (.sl (.pair (.int .i64) (.pair (.int .i64) (.pair (.int .i64) (.pair (.int .i64) (.int .i64)))))))) (.pair (.pair (.sl (.pair .str .str)) (.sl (.pair (.int .i64) (.pair (.int .i64) (.pair (.int .i64) (.pair .str (.sl (.pair .str .str)))))))) (.pair (.sl (.int .i64)) (.sl (.pair (.int .i64) .str))))) (.pair (.pair (.int .i64) (.pair (.int .i64) (.sl (.pair (.int .i64) (.pair (.int .i64) (.pair (.int .i64) (.pair (.int .i64) (.int .i64)))))))) (.pair (.pair (.sl (.pair .str .str)) (.sl (.pair (.int .i64) (.pair (.int .i64) (.pair (.int .i64) (.pair .str (.sl (.pair .str .str)))))))) (.pair (.sl (.int .i64)) (.sl (.pair (.int .i64) .str)))))) (.int .i64))) (opn_struct Tryz.underlying74 (by kernel_rfl) (by kernel_rfl) (opnL_cons (by kernel_rfl) (opn_array Tryz.underlying72 (by kernel_rfl) (by kernel_rfl) (opnL_cons (by kernel_rfl) (opn_struct Tryz.underlying71 (by kernel_rfl) (by kernel_rfl) (opnL_cons (by kernel_rfl) (opn_struct Tryz.underlying24 (by kernel_rfl) (by kernel_rfl) (opnL_cons (by kernel_rfl) (opn_int Tryz.underlying3) (opnL_cons (by kernel_rfl) (opn_int Tryz.underlying3) (opnL_one (by kernel_rfl) (opn_slice Tryz.underlying22 (by kernel_rfl) (of_decide_eq_true (by kernel_rfl)) (by decide) (opn_struct Tryz.underlying107 (by kernel_rfl) (by kernel_rfl) (opnL_cons (by kernel_rfl) (opn_int Tryz.underlying3) (opnL_cons (by kernel_rfl) (opn_int Tryz.underlying3) (opnL_cons (by kernel_rfl) (opn_int Tryz.underlying3) (opnL_cons (by kernel_rfl) (opn_int Tryz.underlying3) (opnL_one (by kernel_rfl) (opn_int Tryz.underlying3)))))))))))) (opnL_cons (by kernel_rfl) (opn_struct Tryz.underlying61 (by kernel_rfl) (by kernel_rfl) (opnL_cons (by kernel_rfl) (opn_slice Tryz.underlying58 (by kernel_rfl) (of_decide_eq_true (by kernel_rfl)) (by decide) (opn_struct Tryz.underlying132 (by kernel_rfl) (by kernel_rfl) (opnL_cons (by kernel_rfl) (opn_string Tryz.underlying9) (opnL_one (by kernel_rfl) (opn_string Tryz.underlying9))))) (opnL_one (by kernel_rfl) (opn_slice Tryz.underlying59 (by kernel_rfl) (of_decide_eq_true (by kernel_rfl)) (by decide) (opn_struct Tryz.underlying135 (by kernel_rfl) (by kernel_rfl) (opnL_cons (by kernel_rfl) (opn_int Tryz.underlying3) (opnL_cons (by kernel_rfl) (opn_int Tryz.underlying3) (opnL_cons (by kernel_rfl) (opn_int Tryz.underlying3) (opnL_cons (by kernel_rfl) (opn_string Tryz.underlying9) (opnL_one (by kernel_rfl) (opn_slice Tryz.underlying58 (by kernel_rfl) (of_decide_eq_true (by kernel_rfl)) (by decide) (opn_struct Tryz.underlying132 (by kernel_rfl) (by kernel_rfl) (opnL_cons (by kernel_rfl) (opn_string Tryz.underlying9) (opnL_one (by kernel_rfl) (opn_string Tryz.underlying9))))))))))))))) (opnL_cons (by kernel_rfl) (opn_slice Tryz.underlying68 (by kernel_rfl) (of_decide_eq_true (by kernel_rfl)) (by decide) (opn_int Tryz.underlying3)) (opnL_one (by kernel_rfl) (opn_slice Tryz.underlying69 (by kernel_rfl) (of_decide_eq_true (by kernel_rfl)) (by decide) (opn_struct Tryz.underlying204 (by kernel_rfl) (by kernel_rfl) (opnL_cons (by kernel_rfl) (opn_int Tryz.underlying31) (opnL_one (by kernel_rfl) (opn_string Tryz.underlying9)))))))))) (opnL_one (by kernel_rfl) (opn_struct Tryz.underlying71 (by kernel_rfl) (by kernel_rfl) (opnL_cons (by kernel_rfl) (opn_struct Tryz.underlying24 (by kernel_rfl) (by kernel_rfl) (opnL_cons (by kernel_rfl) (opn_int Tryz.underlying3) (opnL_cons (by kernel_rfl) (opn_int Tryz.underlying3) (opnL_one (by kernel_rfl) (opn_slice Tryz.underlying22 (by kernel_rfl) (of_decide_eq_true (by kernel_rfl)) (by decide) (opn_struct Tryz.underlying107 (by kernel_rfl) (by kernel_rfl) (opnL_cons (by kernel_rfl) (opn_int Tryz.underlying3) (opnL_cons (by kernel_rfl) (opn_int Tryz.underlying3) (opnL_cons (by kernel_rfl) (opn_int Tryz.underlying3) (opnL_cons (by kernel_rfl) (opn_int Tryz.underlying3) (opnL_one (by kernel_rfl) (opn_int Tryz.underlying3)))))))))))) (opnL_cons (by kernel_rfl) (opn_struct Tryz.underlying61 (by kernel_rfl) (by kernel_rfl) (opnL_cons (by kernel_rfl) (opn_slice Tryz.underlying58 (by kernel_rfl) (of_decide_eq_true (by kernel_rfl)) (by decide) (opn_struct Tryz.underlying132 (by kernel_rfl) (by kernel_rfl) (opnL_cons (by kernel_rfl) (opn_string Tryz.underlying9) (opnL_one (by kernel_rfl) (opn_string Tryz.underlying9))))) (opnL_one (by kernel_rfl) (opn_slice Tryz.underlying59 (by kernel_rfl) (of_decide_eq_true (by kernel_rfl)) (by decide) (opn_struct Tryz.underlying135 (by kernel_rfl) (by kernel_rfl) (opnL_cons (by kernel_rfl) (opn_int Tryz.underlying3) (opnL_cons (by kernel_rfl) (opn_int Tryz.underlying3) (opnL_cons (by kernel_rfl) (opn_int Tryz.underlying3) (opnL_cons (by kernel_rfl) (opn_string Tryz.underlying9) (opnL_one (by kernel_rfl) (opn_slice Tryz.underlying58 (by kernel_rfl) (of_decide_eq_true (by kernel_rfl)) (by decide) (opn_struct Tryz.underlying132 (by kernel_rfl) (by kernel_rfl) (opnL_cons (by kernel_rfl) (opn_string Tryz.underlying9) (opnL_one (by kernel_rfl) (opn_string Tryz.underlying9))))))))))))))) (opnL_cons (by kernel_rfl) (opn_slice Tryz.underlying68 (by kernel_rfl) (of_decide_eq_true (by kernel_rfl)) (by decide) (opn_int Tryz.underlying3)) (opnL_one (by kernel_rfl) (opn_slice Tryz.underlying69 (by kernel_rfl) (of_decide_eq_true (by kernel_rfl)) (by decide) (opn_struct Tryz.underlying204 (by kernel_rfl) (by kernel_rfl) (opnL_cons (by kernel_rfl) (opn_int Tryz.underlying31) (opnL_one (by kernel_rfl) (opn_string Tryz.underlying9))))))))))))) (opnL_one (by kernel_rfl) (opn_int Tryz.underlying3)))) hsz rfl rfl h0
 obtain ⟨a1, len1, cap1, rfl⟩ := okWide_slice Tryz.underlying75 (hval 1 75 v1 rfl rfl)
 have k1 := h1
 have lt1 : ∀ x ∈ p1, x.block < W.heap.size := by obtain ⟨m, hm⟩ := k1; exact DataW.trod_lt m _ _ _ hm
 obtain ⟨x1, K1, q1⟩ := opn_arg (W := W) (j := 1) (ty := (.sl (.pair (.int .i64) .str))) (opn_slice Tryz.underlying75 (by kernel_rfl) (of_decide_eq_true (by kernel_rfl)) (by decide) (opn_struct Tryz.underlying84 (by kernel_rfl) (by kernel_rfl) (opnL_cons (by kernel_rfl) (opn_int Tryz.underlying3) (opnL_one (by kernel_rfl) (opn_string Tryz.underlying9))))) hsz rfl rfl h1
 clear hA0 hval0 hsz0 hsz
 obtain ⟨n, hn⟩ := groattop_TopLinks.holds (x0, x1) ⟨q0, q1⟩
 refine (law_calls (W := W) (C := groattop_TopLinks.C) (fn := Tryz.f7) (c := groattop_TopLinks.code) (sg := groattop_TopLinks.sg) (x := (x0, x1)) (by show TabOk _ tab; exact tabOk) groattop_TopLinks.ok mixed Tryz.func7 (by kernel_rfl) hn ⟨_, _, rfl, ⟨cs0, rfl, K0⟩, ⟨_, rfl, K1⟩⟩).mono fun e W' ⟨he, bel⟩ => ?_
 subst he
 exact ⟨_, rfl, _, _, _, [], _, [], hW', trodAll_mk1 (shut_bool Tryz.underlying4 _), (trodAll_cons_mk (Below.trod laidOut (by kernel_rfl) (of_decide_eq_true (by kernel_rfl)) k0 bel lt0) (trodAll_cons_mk (Below.trod laidOut (by kernel_rfl) (of_decide_eq_true (by kernel_rfl)) k1 bel lt1) trodAll_mk0)), rfl, bel.frame _, fun h => by cases h⟩
theorem over : Rows.topLinksRow.holds Tryz.pinned (OpenSpec.ofChange Rows.topLinksSpec) :=
 OpenClaim.holds_of_wide 7 Tryz.f7 rfl rfl rfl rfl rfl rfl rfl ⟨rfl, rfl, rfl, rfl, rfl⟩ rfl rfl rfl rfl rfl (by kernel_rfl) Tryz.func7 (by kernel_rfl)
  (of_decide_eq_true (by kernel_rfl)) (by unfold Func.isWrapper; first | (rw [if_pos (by decide +kernel)]; kernel_rfl) | (rw [if_neg (by decide +kernel)]; exact ⟨rfl, rfl⟩))
  (fun os started H enc _ => lifted os started H enc)
theorem proved : Rows.TopLinksCardSaid :=
 Claim7.holds_tied_plain_at .later [] [.data, .pinned] true (true, "b7ca414a2153b8e4df3ff7ddd4f42c1c4a0b6aded2e5335350d13949f4940010") false over (fun _ h => by cases h) (by kernel_rfl) (fun _ h => by cases h) topLinks_row_tie rfl ⟨rfl, rfl⟩ (by kernel_rfl) rfl
  (fun f fn hf hfn => by
   obtain rfl : f = 7 := Option.some.inj ((show Tryz.prog.funcNamed "groat/groattop.TopLinks" = some 7 by kernel_rfl).symm.trans hf) |>.symm
   obtain rfl : fn = Tryz.f7 := (Option.some.inj (Tryz.func7.symm.trans hfn)).symm
   exact ⟨by kernel_rfl, fun j t ht => by
    rw [Tryz.params7] at ht
    have hm : t ∈ [74, 75] := by simpa using Array.mem_of_getElem? ht
    have hall : ([74, 75].all fun u => !Tryz.prog.wantsStandIn u) = true := by kernel_rfl
    exact (show Tryz.prog.wantsStandIn t = false by simpa using List.all_eq_true.1 hall t hm)⟩)
  (by kernel_rfl)
#print axioms proved
end Go.Proofs.YtkaihbkfobiejaaGreatDoor.topLinks
namespace Go.Proofs.YtkaihbkfobiejaaGreatDoor
theorem topLinks_holds : Rows.TopLinksCardSaid := topLinks.proved
end Go.Proofs.YtkaihbkfobiejaaGreatDoor
