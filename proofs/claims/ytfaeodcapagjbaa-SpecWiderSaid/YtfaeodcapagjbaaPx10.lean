-- written for this claim by wip/pp.py
import Derived.Test.YtfaeodcapagjbaaPx0
import Derived.Test.YtfaeodcapagjbaaPx4
import Derived.Test.YtfaeodcapagjbaaPx5
import Derived.Test.YtfaeodcapagjbaaPx7
namespace Go.Proofs.Ytfaeodcapagjbaa.P
open Go.RowKit Go.Proofs.YtfaeodcapagjbaaW.PrintWords Go.Proofs.YtfaeodcapagjbaaW.PrintLast Go.Proofs.YtfaeodcapagjbaaW.PrintMore
attribute [local go_sem] max2_int min2_int max_two min_two max_three min_three max_four min_four   -- for this text's walks alone
set_option linter.unusedVariables false
set_option linter.unusedSimpArgs false

/-! ### groatlaw11_SpecBounds: function 5 -/
mutual
def groatlaw11_SpecBounds.j0 : Nat → ByteArray → Bool → Int → Int → Int → Int → Int → Option (Bool)
  | 0, _, _, _, _, _, _, _ => none
  | k + 1, x1, x18, x173000, x173001, x173002, x173003, x173004 => if x18 = true then ((groatlaw11_awake.f k).bind fun t175 => (some t175)) else (groatlaw11_SpecBounds.l0 k x1 x1 x173000 x173001 x173002 x173003 x173004)
def groatlaw11_SpecBounds.l0 : Nat → ByteArray → ByteArray → Int → Int → Int → Int → Int → Option (Bool)
  | 0, _, _, _, _, _, _, _ => none
  | k + 1, x1, x5, x173000, x173001, x173002, x173003, x173004 => if (x5.size : Int) ≤ x173004 then (if (x5.size : Int) < 2000 then (if x5.size + 1 ≤ 9223372036854775807 then (groatlaw11_SpecBounds.l0 k x1 (x5 ++ (⟨#[48]⟩ : ByteArray)) x173000 x173001 x173002 x173003 x173004) else (none)) else (if (x1.size : Int) ≥ x173003 then (if (x1.size : Int) ≤ x173004 then (if (x1.size : Int) ≥ 1 then ((spec_Value.f k x173000 x173001 x173002 x173003 x173004 x5).bind fun t176 => (some (t176 == 5))) else (some false)) else (some false)) else (some false))) else (if (x1.size : Int) ≥ x173003 then (if (x1.size : Int) ≤ x173004 then (if (x1.size : Int) ≥ 1 then ((spec_Value.f k x173000 x173001 x173002 x173003 x173004 x5).bind fun t177 => (some (t177 == 5))) else (some false)) else (some false)) else (some false))
end
def groatlaw11_SpecBounds.f (k : Nat) (a0_0 : Int) (a0_1 : Int) (a0_2 : Int) (a0_3 : Int) (a0_4 : Int) (a1 : ByteArray) : Option (Bool) := (groatlaw11_awake.f k).bind fun t173 => (if t173 = true then (if (a1.size : Int) > 999 then (groatlaw11_SpecBounds.j0 k a1 true a0_0 a0_1 a0_2 a0_3 a0_4) else ((spec_Value.f k a0_0 a0_1 a0_2 a0_3 a0_4 a1).bind fun t174 => (groatlaw11_SpecBounds.j0 k a1 (t174 != 0) a0_0 a0_1 a0_2 a0_3 a0_4))) else (groatlaw11_SpecBounds.j0 k a1 true a0_0 a0_1 a0_2 a0_3 a0_4))
theorem groatlaw11_SpecBounds.mono_l : ∀ k, (∀ y0 y1 y2 y3 y4 y5 y6, LeO (groatlaw11_SpecBounds.j0 k y0 y1 y2 y3 y4 y5 y6) (groatlaw11_SpecBounds.j0 (k + 1) y0 y1 y2 y3 y4 y5 y6)) ∧ (∀ y0 y1 y2 y3 y4 y5 y6, LeO (groatlaw11_SpecBounds.l0 k y0 y1 y2 y3 y4 y5 y6) (groatlaw11_SpecBounds.l0 (k + 1) y0 y1 y2 y3 y4 y5 y6))
  | 0 => ⟨fun _ _ _ _ _ _ _ r h => by simp [groatlaw11_SpecBounds.j0] at h, fun _ _ _ _ _ _ _ r h => by simp [groatlaw11_SpecBounds.l0] at h⟩
  | k + 1 => by
    obtain ⟨ih0, ih1⟩ := groatlaw11_SpecBounds.mono_l k
    refine ⟨?_, ?_⟩
    · intro y0 y1 y2 y3 y4 y5 y6
      unfold groatlaw11_SpecBounds.j0
      repeat' first
      | (with_reducible exact ih0 _ _ _ _ _ _ _)
      | (with_reducible exact ih1 _ _ _ _ _ _ _)
      | (with_reducible exact groatlaw11_awake.mono _)
      | (with_reducible exact spec_Value.mono _ _ _ _ _ _ _)
      | (with_reducible exact LeO.refl _)
      | (with_reducible exact LeO.none _)
      | (with_reducible refine LeO.ite ?_ ?_)
      | (with_reducible refine LeO.bind ?_ (fun _ => ?_))
      | exact ih0 _ _ _ _ _ _ _
      | exact ih1 _ _ _ _ _ _ _
      | exact groatlaw11_awake.mono _
      | exact spec_Value.mono _ _ _ _ _ _ _
      | exact LeO.none _
      | refine LeO.ite ?_ ?_
      | refine LeO.bind ?_ (fun _ => ?_)
    · intro y0 y1 y2 y3 y4 y5 y6
      unfold groatlaw11_SpecBounds.l0
      repeat' first
      | (with_reducible exact ih0 _ _ _ _ _ _ _)
      | (with_reducible exact ih1 _ _ _ _ _ _ _)
      | (with_reducible exact groatlaw11_awake.mono _)
      | (with_reducible exact spec_Value.mono _ _ _ _ _ _ _)
      | (with_reducible exact LeO.refl _)
      | (with_reducible exact LeO.none _)
      | (with_reducible refine LeO.ite ?_ ?_)
      | (with_reducible refine LeO.bind ?_ (fun _ => ?_))
      | exact ih0 _ _ _ _ _ _ _
      | exact ih1 _ _ _ _ _ _ _
      | exact groatlaw11_awake.mono _
      | exact spec_Value.mono _ _ _ _ _ _ _
      | exact LeO.none _
      | refine LeO.ite ?_ ?_
      | refine LeO.bind ?_ (fun _ => ?_)
theorem groatlaw11_SpecBounds.mono : ∀ a0 a1 a2 a3 a4 a5 k, LeO (groatlaw11_SpecBounds.f k a0 a1 a2 a3 a4 a5) (groatlaw11_SpecBounds.f (k + 1) a0 a1 a2 a3 a4 a5) := by
  intro a0 a1 a2 a3 a4 a5 k
  obtain ⟨ih0, ih1⟩ := groatlaw11_SpecBounds.mono_l k
  unfold groatlaw11_SpecBounds.f
  repeat' first
      | (with_reducible exact ih0 _ _ _ _ _ _ _)
      | (with_reducible exact ih1 _ _ _ _ _ _ _)
      | (with_reducible exact groatlaw11_awake.mono _)
      | (with_reducible exact spec_Value.mono _ _ _ _ _ _ _)
      | (with_reducible exact LeO.refl _)
      | (with_reducible exact LeO.none _)
      | (with_reducible refine LeO.ite ?_ ?_)
      | (with_reducible refine LeO.bind ?_ (fun _ => ?_))
      | exact ih0 _ _ _ _ _ _ _
      | exact ih1 _ _ _ _ _ _ _
      | exact groatlaw11_awake.mono _
      | exact spec_Value.mono _ _ _ _ _ _ _
      | exact LeO.none _
      | refine LeO.ite ?_ ?_
      | refine LeO.bind ?_ (fun _ => ?_)
set_option maxHeartbeats 8000000 in
set_option maxRecDepth 100000 in
theorem groatlaw11_SpecBounds.calls (k : Nat) (a0_0 : Int) (a0_1 : Int) (a0_2 : Int) (a0_3 : Int) (a0_4 : Int) (a1 : ByteArray) (r : Bool) (w : World) (h : groatlaw11_SpecBounds.f k a0_0 a0_1 a0_2 a0_3 a0_4 a1 = some r) :
    Calls Try.prog 5 #[.agg #[.int .i64 a0_0, .int .i64 a0_1, .int .i64 a0_2, .int .i64 a0_3, .int .i64 a0_4], .string a1] w fun e w' => e = .returned (.bool r) ∧ Below w.heap.size w w' := by
  have hu23 := Try.underlying23
  have HB := Aside0.mk (Below.refl w.heap.size w)
  have H : ((groatlaw11_awake.f k).bind fun t173 => (if t173 = true then (if (a1.size : Int) > 999 then (groatlaw11_SpecBounds.j0 k a1 true a0_0 a0_1 a0_2 a0_3 a0_4) else ((spec_Value.f k a0_0 a0_1 a0_2 a0_3 a0_4 a1).bind fun t174 => (groatlaw11_SpecBounds.j0 k a1 (t174 != 0) a0_0 a0_1 a0_2 a0_3 a0_4))) else (groatlaw11_SpecBounds.j0 k a1 true a0_0 a0_1 a0_2 a0_3 a0_4))) = some r := h
  clear h
  have HC3 := Aside0.mk H
  clear H
  go_enter Try.func5, Try.ntmps5
  go_upto_region 1 with (first | ((with_reducible refine gate_dst (N := 2) rfl ?_); refine box_event ?hg (N := 2) ?hd (cs := #[.int .i64 a0_0, .int .i64 a0_1, .int .i64 a0_2, .int .i64 a0_3, .int .i64 a0_4]) (t := 23) ?hr ?_; (case hd => rfl); (case hg => rfl); (case hr => first | (go_simp; done) | (go_simp; rfl) | (have hu8_ := IntKind.wrap_u8; go_simp; done) | (have hu8_ := IntKind.wrap_u8; go_simp; rfl) | (go_simp; simp [IntKind.wrap_u8]; done)); intro gb172 hg w4 hbox hb; have n0_ := Aside0.mk (below_step (by repeat (first | (with_reducible first | exact HB.out | apply below_alloc | apply pw_below_drewN | apply below_drew1) | exact HB.out)) hb); have n1_ := Aside0.mk (hbox); have n2_ := Aside0.mk ((by rw [hg]; exact (below_size (by repeat (first | (with_reducible first | exact HB.out | apply below_alloc | apply pw_below_drewN | apply below_drew1) | exact HB.out))) : w.heap.size ≤ gb172)); have n3_ := Aside0.mk ((by rw [hg]; exact (below_size (by repeat (first | (with_reducible first | exact HB.out | apply below_alloc | apply pw_below_drewN | apply below_drew1) | exact HB.out))) : w.heap.size ≤ gb172)); clear HB; have HB := n0_; have BK172 := n1_; have GW172 := n2_; have GE172 := n3_; clear n0_ n1_ n2_ n3_; clear hb hbox hg))
  (try simp only [Act.put, List.setIfInBounds_toArray, List.set_cons_zero, List.set_cons_succ])
  go_cut [18] (fun v18 wc => ∃ (kq : Nat) (x18_2 : Bool), v18 = .bool x18_2 ∧ Aside0 (groatlaw11_SpecBounds.j0 kq a1 x18_2 a0_0 a0_1 a0_2 a0_3 a0_4 = some r) ∧ Aside0 (kq ≤ k) ∧ Aside0 (wc.heap[gb172]? = some (.cells #[.int .i64 a0_0, .int .i64 a0_1, .int .i64 a0_2, .int .i64 a0_3, .int .i64 a0_4] 23 (0, 0))) ∧ Aside0 (Below w.heap.size w wc))
  case first =>
    have H := HC3.out
    clear HC3
    replace H := Option.bind_eq_some_iff.mp H
    obtain ⟨t173, A50, H⟩ := H
    replace H : (if t173 = true then (if (a1.size : Int) > 999 then (groatlaw11_SpecBounds.j0 k a1 true a0_0 a0_1 a0_2 a0_3 a0_4) else ((spec_Value.f k a0_0 a0_1 a0_2 a0_3 a0_4 a1).bind fun t174 => (groatlaw11_SpecBounds.j0 k a1 (t174 != 0) a0_0 a0_1 a0_2 a0_3 a0_4))) else (groatlaw11_SpecBounds.j0 k a1 true a0_0 a0_1 a0_2 a0_3 a0_4)) = some r := H
    have A5 := Aside0.mk A50
    clear A50
    by_cases c6 : t173 = true
    · subst c6
      have H1 : (if (a1.size : Int) > 999 then (groatlaw11_SpecBounds.j0 k a1 true a0_0 a0_1 a0_2 a0_3 a0_4) else ((spec_Value.f k a0_0 a0_1 a0_2 a0_3 a0_4 a1).bind fun t174 => (groatlaw11_SpecBounds.j0 k a1 (t174 != 0) a0_0 a0_1 a0_2 a0_3 a0_4))) = some r := by rw [if_pos rfl] at H; exact H
      clear H
      have H := H1
      clear H1
      by_cases c7 : (a1.size : Int) > 999
      · rw [if_pos c7] at H
        have c7b0 : decide (999 < (a1.size : Int)) = true := decide_eq_true c7
        have c7b1 : decide (999 < a1.size) = true := decide_eq_true (by omega)
        clear c7
        (first | rw [c7b0] | (simp only [i64_w, i32_w]; rw [c7b0]) | skip)
        have H' := Aside0.mk H
        clear H
        go_wp2_with (first | ((with_reducible refine gate_callee (f := 13) rfl ?_); refine goesL_ (some 6) rfl rfl Try.func13 (by kernel_rfl) rfl #[] rfl (by (try simp only [List.map_toArray, List.map_cons, List.map_nil]); first | done | rfl | (simp only [List.length_drop, List.length_take]; rfl)) ?_; (with_reducible refine (groatlaw11_awake.calls k  true _ A5.out).mono ?_); rintro e w8 ⟨rfl, hb⟩; refine ⟨_, rfl, ?_⟩; have n0_ := Aside0.mk (blk_below (g := gb172) (o := .cells #[.int .i64 a0_0, .int .i64 a0_1, .int .i64 a0_2, .int .i64 a0_3, .int .i64 a0_4] 23 (0, 0)) (by (with_reducible repeat (first | refine blk_drewN ?_ _ | refine blk_drew ?_ | refine blk_alloc ?_ _)); exact BK172.out) hb); have n1_ := Aside0.mk (below_step (by repeat (first | (with_reducible first | exact HB.out | apply below_alloc | apply pw_below_drewN | apply below_drew1 | refine below_set ?_ GE172.out) | exact HB.out)) hb); clear BK172; clear HB; have BK172 := n0_; have HB := n1_; clear n0_ n1_; (try clear hb); (try clear hb2); (try clear hk); (try clear hi)))
        go_meet
        case rel => exact ⟨_, (true), (by first | rfl | (simp; done) | (simp [*]; done) | (simp [wrap64]; done)), H', ⟨by first | omega | exact Nat.le_refl _⟩, ⟨by (with_reducible repeat (first | refine blk_drewN ?_ _ | refine blk_drew ?_ | refine blk_alloc ?_ _)); exact BK172.out⟩, ⟨by repeat (first | (with_reducible first | exact HB.out | apply below_alloc | apply pw_below_drewN | apply below_drew1 | refine below_set ?_ GE172.out) | exact HB.out)⟩⟩
      · rw [if_neg c7] at H
        have c7b0 : decide (999 < (a1.size : Int)) = false := decide_eq_false c7
        have c7b1 : decide (999 < a1.size) = false := decide_eq_false (by omega)
        clear c7
        (first | rw [c7b0] | (simp only [i64_w, i32_w]; rw [c7b0]) | skip)
        replace H := Option.bind_eq_some_iff.mp H
        obtain ⟨t174, A90, H⟩ := H
        replace H : (groatlaw11_SpecBounds.j0 k a1 (t174 != 0) a0_0 a0_1 a0_2 a0_3 a0_4) = some r := H
        have A9 := Aside0.mk A90
        clear A90
        have H' := Aside0.mk H
        clear H
        go_wp2_with (first | ((with_reducible refine gate_callee (f := 13) rfl ?_); refine goesL_ (some 6) rfl rfl Try.func13 (by kernel_rfl) rfl #[] rfl (by (try simp only [List.map_toArray, List.map_cons, List.map_nil]); first | done | rfl | (simp only [List.length_drop, List.length_take]; rfl)) ?_; (with_reducible refine (groatlaw11_awake.calls k  true _ A5.out).mono ?_); rintro e w10 ⟨rfl, hb⟩; refine ⟨_, rfl, ?_⟩; have n0_ := Aside0.mk (blk_below (g := gb172) (o := .cells #[.int .i64 a0_0, .int .i64 a0_1, .int .i64 a0_2, .int .i64 a0_3, .int .i64 a0_4] 23 (0, 0)) (by (with_reducible repeat (first | refine blk_drewN ?_ _ | refine blk_drew ?_ | refine blk_alloc ?_ _)); exact BK172.out) hb); have n1_ := Aside0.mk (below_step (by repeat (first | (with_reducible first | exact HB.out | apply below_alloc | apply pw_below_drewN | apply below_drew1 | refine below_set ?_ GE172.out) | exact HB.out)) hb); clear BK172; clear HB; have BK172 := n0_; have HB := n1_; clear n0_ n1_; (try clear hb); (try clear hb2); (try clear hk); (try clear hi); have hcz11_0 : w10.cell? ⟨gb172, 0, none⟩ = some (.int .i64 a0_0) := (blk_cell BK172.out 0).trans rfl; have hcz11_1 : w10.cell? ⟨gb172, 1, none⟩ = some (.int .i64 a0_1) := (blk_cell BK172.out 1).trans rfl; have hcz11_2 : w10.cell? ⟨gb172, 2, none⟩ = some (.int .i64 a0_2) := (blk_cell BK172.out 2).trans rfl; have hcz11_3 : w10.cell? ⟨gb172, 3, none⟩ = some (.int .i64 a0_3) := (blk_cell BK172.out 3).trans rfl; have hcz11_4 : w10.cell? ⟨gb172, 4, none⟩ = some (.int .i64 a0_4) := (blk_cell BK172.out 4).trans rfl; have hfz11_0 := blk_frozen BK172.out 0; have hfz11_1 := blk_frozen BK172.out 1; have hfz11_2 := blk_frozen BK172.out 2; have hfz11_3 := blk_frozen BK172.out 3; have hfz11_4 := blk_frozen BK172.out 4) | (go_at_call 16; (with_reducible refine (spec_Value.calls k a0_0 a0_1 a0_2 a0_3 a0_4 a1 t174 _ A9.out).mono ?_); rintro e w12 ⟨rfl, hb⟩; have n0_ := Aside0.mk (blk_below (g := gb172) (o := .cells #[.int .i64 a0_0, .int .i64 a0_1, .int .i64 a0_2, .int .i64 a0_3, .int .i64 a0_4] 23 (0, 0)) (by (with_reducible repeat (first | refine blk_drewN ?_ _ | refine blk_drew ?_ | refine blk_alloc ?_ _)); exact BK172.out) hb); have n1_ := Aside0.mk (below_step (by repeat (first | (with_reducible first | exact HB.out | apply below_alloc | apply pw_below_drewN | apply below_drew1 | refine below_set ?_ GE172.out) | exact HB.out)) hb); clear BK172; clear HB; have BK172 := n0_; have HB := n1_; clear n0_ n1_; (try clear hb); (try clear hb2); (try clear hk); (try clear hi)))
        go_meet
        case rel => exact ⟨_, ((t174 != 0)), (by first | rfl | (simp; done) | (simp [*]; done) | (simp [wrap64]; done)), H', ⟨by first | omega | exact Nat.le_refl _⟩, ⟨by (with_reducible repeat (first | refine blk_drewN ?_ _ | refine blk_drew ?_ | refine blk_alloc ?_ _)); exact BK172.out⟩, ⟨by repeat (first | (with_reducible first | exact HB.out | apply below_alloc | apply pw_below_drewN | apply below_drew1 | refine below_set ?_ GE172.out) | exact HB.out)⟩⟩
    · replace c6 := Bool.eq_false_iff.mpr c6
      subst c6
      have H1 : (groatlaw11_SpecBounds.j0 k a1 true a0_0 a0_1 a0_2 a0_3 a0_4) = some r := by rw [if_neg (show ¬ (false = true) by decide)] at H; exact H
      clear H
      have H := H1
      clear H1
      have H' := Aside0.mk H
      clear H
      go_wp2_with (first | ((with_reducible refine gate_callee (f := 13) rfl ?_); refine goesL_ (some 6) rfl rfl Try.func13 (by kernel_rfl) rfl #[] rfl (by (try simp only [List.map_toArray, List.map_cons, List.map_nil]); first | done | rfl | (simp only [List.length_drop, List.length_take]; rfl)) ?_; (with_reducible refine (groatlaw11_awake.calls k  false _ A5.out).mono ?_); rintro e w13 ⟨rfl, hb⟩; refine ⟨_, rfl, ?_⟩; have n0_ := Aside0.mk (blk_below (g := gb172) (o := .cells #[.int .i64 a0_0, .int .i64 a0_1, .int .i64 a0_2, .int .i64 a0_3, .int .i64 a0_4] 23 (0, 0)) (by (with_reducible repeat (first | refine blk_drewN ?_ _ | refine blk_drew ?_ | refine blk_alloc ?_ _)); exact BK172.out) hb); have n1_ := Aside0.mk (below_step (by repeat (first | (with_reducible first | exact HB.out | apply below_alloc | apply pw_below_drewN | apply below_drew1 | refine below_set ?_ GE172.out) | exact HB.out)) hb); clear BK172; clear HB; have BK172 := n0_; have HB := n1_; clear n0_ n1_; (try clear hb); (try clear hb2); (try clear hk); (try clear hi)))
      go_meet
      case rel => exact ⟨_, (true), (by first | rfl | (simp; done) | (simp [*]; done) | (simp [wrap64]; done)), H', ⟨by first | omega | exact Nat.le_refl _⟩, ⟨by (with_reducible repeat (first | refine blk_drewN ?_ _ | refine blk_drew ?_ | refine blk_alloc ?_ _)); exact BK172.out⟩, ⟨by repeat (first | (with_reducible first | exact HB.out | apply below_alloc | apply pw_below_drewN | apply below_drew1 | refine below_set ?_ GE172.out) | exact HB.out)⟩⟩
  case rest =>
    clear HC3
    try clear c1
    try clear p2
    try clear c5
    try clear c6
    try clear p6
    try clear c7
    try clear c7b0
    try clear c7b1
    try clear c13
    try clear hcz11_0
    try clear hcz11_1
    try clear hcz11_2
    try clear hcz11_3
    try clear hcz11_4
    try clear hfz11_0
    try clear hfz11_1
    try clear hfz11_2
    try clear hfz11_3
    try clear hfz11_4
    obtain ⟨kq, x18_2, rfl, HA, HJ2, BK172, HB⟩ := hcut
    cases kq with
    | zero => exact absurd HA.out (by simp [groatlaw11_SpecBounds.j0])
    | succ kj2 =>
      have H := HA.out
      clear HA
      simp only [groatlaw11_SpecBounds.j0] at H
      by_cases c14 : x18_2 = true
      · subst c14
        have H1 : ((groatlaw11_awake.f kj2).bind fun t175 => (some t175)) = some r := by rw [if_pos rfl] at H; exact H
        clear H
        have H := H1
        clear H1
        replace H := Option.bind_eq_some_iff.mp H
        obtain ⟨t175, A150, H⟩ := H
        replace H : (some t175) = some r := H
        have A15 := Aside0.mk A150
        clear A150
        obtain rfl := Option.some.inj H
        go_wp2_with (first | ((with_reducible refine gate_callee (f := 13) rfl ?_); refine goesL_ (some 19) rfl rfl Try.func13 (by kernel_rfl) rfl #[] rfl (by (try simp only [List.map_toArray, List.map_cons, List.map_nil]); first | done | rfl | (simp only [List.length_drop, List.length_take]; rfl)) ?_; (with_reducible refine (groatlaw11_awake.calls kj2  t175 _ A15.out).mono ?_); rintro e w16 ⟨rfl, hb⟩; refine ⟨_, rfl, ?_⟩; have n0_ := Aside0.mk (blk_below (g := gb172) (o := .cells #[.int .i64 a0_0, .int .i64 a0_1, .int .i64 a0_2, .int .i64 a0_3, .int .i64 a0_4] 23 (0, 0)) (by (with_reducible repeat (first | refine blk_drewN ?_ _ | refine blk_drew ?_ | refine blk_alloc ?_ _)); exact BK172.out) hb); have n1_ := Aside0.mk (below_step (by repeat (first | (with_reducible first | exact HB.out | apply below_alloc | apply pw_below_drewN | apply below_drew1 | refine below_set ?_ GE172.out) | exact HB.out)) hb); clear BK172; clear HB; have BK172 := n0_; have HB := n1_; clear n0_ n1_; (try clear hb); (try clear hb2); (try clear hk); (try clear hi)))
        go_ret
        exact ⟨by first | rfl | (simp [errW_none, errW_some] <;> rfl) | (simp [*, errW_none, errW_some] <;> rfl), by repeat (first | (with_reducible first | exact HB.out | apply below_alloc | apply pw_below_drewN | apply below_drew1 | refine below_set ?_ GE172.out) | exact HB.out)⟩
      · replace c14 := Bool.eq_false_iff.mpr c14
        subst c14
        have H1 : (groatlaw11_SpecBounds.l0 kj2 a1 a1 a0_0 a0_1 a0_2 a0_3 a0_4) = some r := by rw [if_neg (show ¬ (false = true) by decide)] at H; exact H
        clear H
        have H := H1
        clear H1
        have H' := Aside0.mk H
        clear H
        go_wp2
        go_loopg [5] kj2 (fun kq v5 w' => ∃ (x5_2 : ByteArray), v5 = .string x5_2 ∧ Aside0 (groatlaw11_SpecBounds.l0 kq a1 x5_2 a0_0 a0_1 a0_2 a0_3 a0_4 = some r) ∧ Aside0 (kq ≤ kj2) ∧ Aside0 (w'.heap[gb172]? = some (.cells #[.int .i64 a0_0, .int .i64 a0_1, .int .i64 a0_2, .int .i64 a0_3, .int .i64 a0_4] 23 (0, 0))) ∧ Aside0 (Below w.heap.size w w'))
        case atStart => exact ⟨(a1), (by first | rfl | (simp; done) | (simp [*]; done) | (simp [wrap64]; done)), H', ⟨Nat.le_refl _⟩, ⟨by (with_reducible repeat (first | refine blk_drewN ?_ _ | refine blk_drew ?_ | refine blk_alloc ?_ _)); exact BK172.out⟩, ⟨by repeat (first | (with_reducible first | exact HB.out | apply below_alloc | apply pw_below_drewN | apply below_drew1 | refine below_set ?_ GE172.out) | exact HB.out)⟩⟩
        case round =>
          clear H'
          try clear c1
          try clear p2
          try clear c5
          try clear c6
          try clear p6
          try clear c7
          try clear c7b0
          try clear c7b1
          try clear c13
          try clear c14
          try clear hcz11_0
          try clear hcz11_1
          try clear hcz11_2
          try clear hcz11_3
          try clear hcz11_4
          try clear hfz11_0
          try clear hfz11_1
          try clear hfz11_2
          try clear hfz11_3
          try clear hfz11_4
          try clear p2
          try clear p6
          obtain ⟨x5_2, rfl, HA, HK2, BK172, HB⟩ := hrel
          cases gk with
          | zero => exact absurd HA.out (by simp [groatlaw11_SpecBounds.l0])
          | succ k2 =>
            have H := HA.out
            clear HA
            simp only [groatlaw11_SpecBounds.l0] at H
            by_cases c17 : (x5_2.size : Int) ≤ a0_4
            · rw [if_pos c17] at H
              have c17b0 : decide ((x5_2.size : Int) ≤ a0_4) = true := decide_eq_true c17
              clear c17
              by_cases c18 : (x5_2.size : Int) < 2000
              · rw [if_pos c18] at H
                have c18b0 : decide ((x5_2.size : Int) < 2000) = true := decide_eq_true c18
                have c18b1 : decide (x5_2.size < 2000) = true := decide_eq_true (by omega)
                clear c18
                by_cases c19 : x5_2.size + 1 ≤ 9223372036854775807
                · rw [if_pos c19] at H
                  have c19b0 := eq_true c19
                  have c19b1 : decide (x5_2.size + 1 ≤ 9223372036854775807) = true := decide_eq_true c19
                  try have c19b2 : (9223372036854775807 < x5_2.size + 1) = False := eq_false (Nat.not_lt.2 c19)
                  try (have c19b3 := c19b2; simp only [ByteArray.size_extract, ByteArray.size_append, Nat.min_self, Nat.sub_zero] at c19b3)
                  have H' := Aside0.mk H
                  clear H
                  have hcz20_0 : wr.cell? ⟨gb172, 0, none⟩ = some (.int .i64 a0_0) := (blk_cell BK172.out 0).trans rfl
                  have hcz20_1 : wr.cell? ⟨gb172, 1, none⟩ = some (.int .i64 a0_1) := (blk_cell BK172.out 1).trans rfl
                  have hcz20_2 : wr.cell? ⟨gb172, 2, none⟩ = some (.int .i64 a0_2) := (blk_cell BK172.out 2).trans rfl
                  have hcz20_3 : wr.cell? ⟨gb172, 3, none⟩ = some (.int .i64 a0_3) := (blk_cell BK172.out 3).trans rfl
                  have hcz20_4 : wr.cell? ⟨gb172, 4, none⟩ = some (.int .i64 a0_4) := (blk_cell BK172.out 4).trans rfl
                  have hfz20_0 := blk_frozen BK172.out 0
                  have hfz20_1 := blk_frozen BK172.out 1
                  have hfz20_2 := blk_frozen BK172.out 2
                  have hfz20_3 := blk_frozen BK172.out 3
                  have hfz20_4 := blk_frozen BK172.out 4
                  go_wp2
                  go_roundg k2
                  case measure => have := HJ2.out; have := HK2.out; omega
                  case rel => exact ⟨(x5_2 ++ (⟨#[48]⟩ : ByteArray)), (by first | rfl | (simp; done) | (simp [*]; done) | (simp [wrap64]; done)), H', ⟨by have := HJ2.out; have := HK2.out; omega⟩, ⟨by (with_reducible repeat (first | refine blk_drewN ?_ _ | refine blk_drew ?_ | refine blk_alloc ?_ _)); exact BK172.out⟩, ⟨by repeat (first | (with_reducible first | exact HB.out | apply below_alloc | apply pw_below_drewN | apply below_drew1 | refine below_set ?_ GE172.out) | exact HB.out)⟩⟩
                · rw [if_neg c19] at H
                  exact absurd H (by simp)
              · rw [if_neg c18] at H
                have c18b0 : decide ((x5_2.size : Int) < 2000) = false := decide_eq_false c18
                have c18b1 : decide (x5_2.size < 2000) = false := decide_eq_false (by omega)
                clear c18
                by_cases c21 : (a1.size : Int) ≥ a0_3
                · rw [if_pos c21] at H
                  have c21b0 : decide (a0_3 ≤ (a1.size : Int)) = true := decide_eq_true c21
                  clear c21
                  by_cases c22 : (a1.size : Int) ≤ a0_4
                  · rw [if_pos c22] at H
                    have c22b0 : decide ((a1.size : Int) ≤ a0_4) = true := decide_eq_true c22
                    clear c22
                    by_cases c23 : (a1.size : Int) ≥ 1
                    · rw [if_pos c23] at H
                      have c23b0 : decide (1 ≤ (a1.size : Int)) = true := decide_eq_true c23
                      have c23b1 : decide (1 ≤ a1.size) = true := decide_eq_true (by omega)
                      clear c23
                      replace H := Option.bind_eq_some_iff.mp H
                      obtain ⟨t176, A240, H⟩ := H
                      replace H : (some (t176 == 5)) = some r := H
                      have A24 := Aside0.mk A240
                      clear A240
                      obtain rfl := Option.some.inj H
                      have hcz25_0 : wr.cell? ⟨gb172, 0, none⟩ = some (.int .i64 a0_0) := (blk_cell BK172.out 0).trans rfl
                      have hcz25_1 : wr.cell? ⟨gb172, 1, none⟩ = some (.int .i64 a0_1) := (blk_cell BK172.out 1).trans rfl
                      have hcz25_2 : wr.cell? ⟨gb172, 2, none⟩ = some (.int .i64 a0_2) := (blk_cell BK172.out 2).trans rfl
                      have hcz25_3 : wr.cell? ⟨gb172, 3, none⟩ = some (.int .i64 a0_3) := (blk_cell BK172.out 3).trans rfl
                      have hcz25_4 : wr.cell? ⟨gb172, 4, none⟩ = some (.int .i64 a0_4) := (blk_cell BK172.out 4).trans rfl
                      have hfz25_0 := blk_frozen BK172.out 0
                      have hfz25_1 := blk_frozen BK172.out 1
                      have hfz25_2 := blk_frozen BK172.out 2
                      have hfz25_3 := blk_frozen BK172.out 3
                      have hfz25_4 := blk_frozen BK172.out 4
                      go_wp2_with (first | (go_at_call 16; (with_reducible refine (spec_Value.calls k2 a0_0 a0_1 a0_2 a0_3 a0_4 x5_2 t176 _ A24.out).mono ?_); rintro e w26 ⟨rfl, hb⟩; have n0_ := Aside0.mk (blk_below (g := gb172) (o := .cells #[.int .i64 a0_0, .int .i64 a0_1, .int .i64 a0_2, .int .i64 a0_3, .int .i64 a0_4] 23 (0, 0)) (by (with_reducible repeat (first | refine blk_drewN ?_ _ | refine blk_drew ?_ | refine blk_alloc ?_ _)); exact BK172.out) hb); have n1_ := Aside0.mk (below_step (by repeat (first | (with_reducible first | exact HB.out | apply below_alloc | apply pw_below_drewN | apply below_drew1 | refine below_set ?_ GE172.out) | exact HB.out)) hb); clear BK172; clear HB; have BK172 := n0_; have HB := n1_; clear n0_ n1_; (try clear hb); (try clear hb2); (try clear hk); (try clear hi)))
                      go_ret
                      exact ⟨by first | rfl | (simp [errW_none, errW_some] <;> rfl) | (simp [*, errW_none, errW_some] <;> rfl), by repeat (first | (with_reducible first | exact HB.out | apply below_alloc | apply pw_below_drewN | apply below_drew1 | refine below_set ?_ GE172.out) | exact HB.out)⟩
                    · rw [if_neg c23] at H
                      have c23b0 : decide (1 ≤ (a1.size : Int)) = false := decide_eq_false c23
                      have c23b1 : decide (1 ≤ a1.size) = false := decide_eq_false (by omega)
                      clear c23
                      obtain rfl := Option.some.inj H
                      have hcz27_0 : wr.cell? ⟨gb172, 0, none⟩ = some (.int .i64 a0_0) := (blk_cell BK172.out 0).trans rfl
                      have hcz27_1 : wr.cell? ⟨gb172, 1, none⟩ = some (.int .i64 a0_1) := (blk_cell BK172.out 1).trans rfl
                      have hcz27_2 : wr.cell? ⟨gb172, 2, none⟩ = some (.int .i64 a0_2) := (blk_cell BK172.out 2).trans rfl
                      have hcz27_3 : wr.cell? ⟨gb172, 3, none⟩ = some (.int .i64 a0_3) := (blk_cell BK172.out 3).trans rfl
                      have hcz27_4 : wr.cell? ⟨gb172, 4, none⟩ = some (.int .i64 a0_4) := (blk_cell BK172.out 4).trans rfl
                      have hfz27_0 := blk_frozen BK172.out 0
                      have hfz27_1 := blk_frozen BK172.out 1
                      have hfz27_2 := blk_frozen BK172.out 2
                      have hfz27_3 := blk_frozen BK172.out 3
                      have hfz27_4 := blk_frozen BK172.out 4
                      go_wp2
                      go_ret
                      exact ⟨by first | rfl | (simp [errW_none, errW_some] <;> rfl) | (simp [*, errW_none, errW_some] <;> rfl), by repeat (first | (with_reducible first | exact HB.out | apply below_alloc | apply pw_below_drewN | apply below_drew1 | refine below_set ?_ GE172.out) | exact HB.out)⟩
                  · rw [if_neg c22] at H
                    have c22b0 : decide ((a1.size : Int) ≤ a0_4) = false := decide_eq_false c22
                    clear c22
                    obtain rfl := Option.some.inj H
                    have hcz28_0 : wr.cell? ⟨gb172, 0, none⟩ = some (.int .i64 a0_0) := (blk_cell BK172.out 0).trans rfl
                    have hcz28_1 : wr.cell? ⟨gb172, 1, none⟩ = some (.int .i64 a0_1) := (blk_cell BK172.out 1).trans rfl
                    have hcz28_2 : wr.cell? ⟨gb172, 2, none⟩ = some (.int .i64 a0_2) := (blk_cell BK172.out 2).trans rfl
                    have hcz28_3 : wr.cell? ⟨gb172, 3, none⟩ = some (.int .i64 a0_3) := (blk_cell BK172.out 3).trans rfl
                    have hcz28_4 : wr.cell? ⟨gb172, 4, none⟩ = some (.int .i64 a0_4) := (blk_cell BK172.out 4).trans rfl
                    have hfz28_0 := blk_frozen BK172.out 0
                    have hfz28_1 := blk_frozen BK172.out 1
                    have hfz28_2 := blk_frozen BK172.out 2
                    have hfz28_3 := blk_frozen BK172.out 3
                    have hfz28_4 := blk_frozen BK172.out 4
                    go_wp2
                    go_ret
                    exact ⟨by first | rfl | (simp [errW_none, errW_some] <;> rfl) | (simp [*, errW_none, errW_some] <;> rfl), by repeat (first | (with_reducible first | exact HB.out | apply below_alloc | apply pw_below_drewN | apply below_drew1 | refine below_set ?_ GE172.out) | exact HB.out)⟩
                · rw [if_neg c21] at H
                  have c21b0 : decide (a0_3 ≤ (a1.size : Int)) = false := decide_eq_false c21
                  clear c21
                  obtain rfl := Option.some.inj H
                  have hcz29_0 : wr.cell? ⟨gb172, 0, none⟩ = some (.int .i64 a0_0) := (blk_cell BK172.out 0).trans rfl
                  have hcz29_1 : wr.cell? ⟨gb172, 1, none⟩ = some (.int .i64 a0_1) := (blk_cell BK172.out 1).trans rfl
                  have hcz29_2 : wr.cell? ⟨gb172, 2, none⟩ = some (.int .i64 a0_2) := (blk_cell BK172.out 2).trans rfl
                  have hcz29_3 : wr.cell? ⟨gb172, 3, none⟩ = some (.int .i64 a0_3) := (blk_cell BK172.out 3).trans rfl
                  have hcz29_4 : wr.cell? ⟨gb172, 4, none⟩ = some (.int .i64 a0_4) := (blk_cell BK172.out 4).trans rfl
                  have hfz29_0 := blk_frozen BK172.out 0
                  have hfz29_1 := blk_frozen BK172.out 1
                  have hfz29_2 := blk_frozen BK172.out 2
                  have hfz29_3 := blk_frozen BK172.out 3
                  have hfz29_4 := blk_frozen BK172.out 4
                  go_wp2
                  go_ret
                  exact ⟨by first | rfl | (simp [errW_none, errW_some] <;> rfl) | (simp [*, errW_none, errW_some] <;> rfl), by repeat (first | (with_reducible first | exact HB.out | apply below_alloc | apply pw_below_drewN | apply below_drew1 | refine below_set ?_ GE172.out) | exact HB.out)⟩
            · rw [if_neg c17] at H
              have c17b0 : decide ((x5_2.size : Int) ≤ a0_4) = false := decide_eq_false c17
              clear c17
              by_cases c30 : (a1.size : Int) ≥ a0_3
              · rw [if_pos c30] at H
                have c30b0 : decide (a0_3 ≤ (a1.size : Int)) = true := decide_eq_true c30
                clear c30
                by_cases c31 : (a1.size : Int) ≤ a0_4
                · rw [if_pos c31] at H
                  have c31b0 : decide ((a1.size : Int) ≤ a0_4) = true := decide_eq_true c31
                  clear c31
                  by_cases c32 : (a1.size : Int) ≥ 1
                  · rw [if_pos c32] at H
                    have c32b0 : decide (1 ≤ (a1.size : Int)) = true := decide_eq_true c32
                    have c32b1 : decide (1 ≤ a1.size) = true := decide_eq_true (by omega)
                    clear c32
                    replace H := Option.bind_eq_some_iff.mp H
                    obtain ⟨t177, A330, H⟩ := H
                    replace H : (some (t177 == 5)) = some r := H
                    have A33 := Aside0.mk A330
                    clear A330
                    obtain rfl := Option.some.inj H
                    have hcz34_0 : wr.cell? ⟨gb172, 0, none⟩ = some (.int .i64 a0_0) := (blk_cell BK172.out 0).trans rfl
                    have hcz34_1 : wr.cell? ⟨gb172, 1, none⟩ = some (.int .i64 a0_1) := (blk_cell BK172.out 1).trans rfl
                    have hcz34_2 : wr.cell? ⟨gb172, 2, none⟩ = some (.int .i64 a0_2) := (blk_cell BK172.out 2).trans rfl
                    have hcz34_3 : wr.cell? ⟨gb172, 3, none⟩ = some (.int .i64 a0_3) := (blk_cell BK172.out 3).trans rfl
                    have hcz34_4 : wr.cell? ⟨gb172, 4, none⟩ = some (.int .i64 a0_4) := (blk_cell BK172.out 4).trans rfl
                    have hfz34_0 := blk_frozen BK172.out 0
                    have hfz34_1 := blk_frozen BK172.out 1
                    have hfz34_2 := blk_frozen BK172.out 2
                    have hfz34_3 := blk_frozen BK172.out 3
                    have hfz34_4 := blk_frozen BK172.out 4
                    go_wp2_with (first | (go_at_call 16; (with_reducible refine (spec_Value.calls k2 a0_0 a0_1 a0_2 a0_3 a0_4 x5_2 t177 _ A33.out).mono ?_); rintro e w35 ⟨rfl, hb⟩; have n0_ := Aside0.mk (blk_below (g := gb172) (o := .cells #[.int .i64 a0_0, .int .i64 a0_1, .int .i64 a0_2, .int .i64 a0_3, .int .i64 a0_4] 23 (0, 0)) (by (with_reducible repeat (first | refine blk_drewN ?_ _ | refine blk_drew ?_ | refine blk_alloc ?_ _)); exact BK172.out) hb); have n1_ := Aside0.mk (below_step (by repeat (first | (with_reducible first | exact HB.out | apply below_alloc | apply pw_below_drewN | apply below_drew1 | refine below_set ?_ GE172.out) | exact HB.out)) hb); clear BK172; clear HB; have BK172 := n0_; have HB := n1_; clear n0_ n1_; (try clear hb); (try clear hb2); (try clear hk); (try clear hi)))
                    go_ret
                    exact ⟨by first | rfl | (simp [errW_none, errW_some] <;> rfl) | (simp [*, errW_none, errW_some] <;> rfl), by repeat (first | (with_reducible first | exact HB.out | apply below_alloc | apply pw_below_drewN | apply below_drew1 | refine below_set ?_ GE172.out) | exact HB.out)⟩
                  · rw [if_neg c32] at H
                    have c32b0 : decide (1 ≤ (a1.size : Int)) = false := decide_eq_false c32
                    have c32b1 : decide (1 ≤ a1.size) = false := decide_eq_false (by omega)
                    clear c32
                    obtain rfl := Option.some.inj H
                    have hcz36_0 : wr.cell? ⟨gb172, 0, none⟩ = some (.int .i64 a0_0) := (blk_cell BK172.out 0).trans rfl
                    have hcz36_1 : wr.cell? ⟨gb172, 1, none⟩ = some (.int .i64 a0_1) := (blk_cell BK172.out 1).trans rfl
                    have hcz36_2 : wr.cell? ⟨gb172, 2, none⟩ = some (.int .i64 a0_2) := (blk_cell BK172.out 2).trans rfl
                    have hcz36_3 : wr.cell? ⟨gb172, 3, none⟩ = some (.int .i64 a0_3) := (blk_cell BK172.out 3).trans rfl
                    have hcz36_4 : wr.cell? ⟨gb172, 4, none⟩ = some (.int .i64 a0_4) := (blk_cell BK172.out 4).trans rfl
                    have hfz36_0 := blk_frozen BK172.out 0
                    have hfz36_1 := blk_frozen BK172.out 1
                    have hfz36_2 := blk_frozen BK172.out 2
                    have hfz36_3 := blk_frozen BK172.out 3
                    have hfz36_4 := blk_frozen BK172.out 4
                    go_wp2
                    go_ret
                    exact ⟨by first | rfl | (simp [errW_none, errW_some] <;> rfl) | (simp [*, errW_none, errW_some] <;> rfl), by repeat (first | (with_reducible first | exact HB.out | apply below_alloc | apply pw_below_drewN | apply below_drew1 | refine below_set ?_ GE172.out) | exact HB.out)⟩
                · rw [if_neg c31] at H
                  have c31b0 : decide ((a1.size : Int) ≤ a0_4) = false := decide_eq_false c31
                  clear c31
                  obtain rfl := Option.some.inj H
                  have hcz37_0 : wr.cell? ⟨gb172, 0, none⟩ = some (.int .i64 a0_0) := (blk_cell BK172.out 0).trans rfl
                  have hcz37_1 : wr.cell? ⟨gb172, 1, none⟩ = some (.int .i64 a0_1) := (blk_cell BK172.out 1).trans rfl
                  have hcz37_2 : wr.cell? ⟨gb172, 2, none⟩ = some (.int .i64 a0_2) := (blk_cell BK172.out 2).trans rfl
                  have hcz37_3 : wr.cell? ⟨gb172, 3, none⟩ = some (.int .i64 a0_3) := (blk_cell BK172.out 3).trans rfl
                  have hcz37_4 : wr.cell? ⟨gb172, 4, none⟩ = some (.int .i64 a0_4) := (blk_cell BK172.out 4).trans rfl
                  have hfz37_0 := blk_frozen BK172.out 0
                  have hfz37_1 := blk_frozen BK172.out 1
                  have hfz37_2 := blk_frozen BK172.out 2
                  have hfz37_3 := blk_frozen BK172.out 3
                  have hfz37_4 := blk_frozen BK172.out 4
                  go_wp2
                  go_ret
                  exact ⟨by first | rfl | (simp [errW_none, errW_some] <;> rfl) | (simp [*, errW_none, errW_some] <;> rfl), by repeat (first | (with_reducible first | exact HB.out | apply below_alloc | apply pw_below_drewN | apply below_drew1 | refine below_set ?_ GE172.out) | exact HB.out)⟩
              · rw [if_neg c30] at H
                have c30b0 : decide (a0_3 ≤ (a1.size : Int)) = false := decide_eq_false c30
                clear c30
                obtain rfl := Option.some.inj H
                have hcz38_0 : wr.cell? ⟨gb172, 0, none⟩ = some (.int .i64 a0_0) := (blk_cell BK172.out 0).trans rfl
                have hcz38_1 : wr.cell? ⟨gb172, 1, none⟩ = some (.int .i64 a0_1) := (blk_cell BK172.out 1).trans rfl
                have hcz38_2 : wr.cell? ⟨gb172, 2, none⟩ = some (.int .i64 a0_2) := (blk_cell BK172.out 2).trans rfl
                have hcz38_3 : wr.cell? ⟨gb172, 3, none⟩ = some (.int .i64 a0_3) := (blk_cell BK172.out 3).trans rfl
                have hcz38_4 : wr.cell? ⟨gb172, 4, none⟩ = some (.int .i64 a0_4) := (blk_cell BK172.out 4).trans rfl
                have hfz38_0 := blk_frozen BK172.out 0
                have hfz38_1 := blk_frozen BK172.out 1
                have hfz38_2 := blk_frozen BK172.out 2
                have hfz38_3 := blk_frozen BK172.out 3
                have hfz38_4 := blk_frozen BK172.out 4
                go_wp2
                go_ret
                exact ⟨by first | rfl | (simp [errW_none, errW_some] <;> rfl) | (simp [*, errW_none, errW_some] <;> rfl), by repeat (first | (with_reducible first | exact HB.out | apply below_alloc | apply pw_below_drewN | apply below_drew1 | refine below_set ?_ GE172.out) | exact HB.out)⟩

/-- THE ONE PURE STATEMENT of groatlaw11_SpecBounds. -/
def groatlaw11_SpecBounds.Pure : Prop := ∀ (x0 : S23) (x1 : ByteArray), Q23 x0 → x1.size ≤ 140737488351232 → ∃ k, groatlaw11_SpecBounds.f k x0.f0 x0.f1 x0.f2 x0.f3 x0.f4 x1 = some true

/-! ### groatref04_Wider: function 32 -/
mutual
def groatref04_Wider.j0 : Nat → Int → Int → Bool → Option (Bool)
  | 0, _, _, _ => none
  | k + 1, x0, x1, x19 => if x19 = true then (some false) else (groatref04_Wider.l0 k x0 x1 0)
def groatref04_Wider.l0 : Nat → Int → Int → Int → Option (Bool)
  | 0, _, _, _ => none
  | k + 1, x0, x1, x5 => if x5 < 256 then ((groatref04_Is.f k x1 ((x5) % 256)).bind fun t178 => (if t178 = true then ((groatref04_Is.f k x0 ((x5) % 256)).bind fun t179 => (if t179 = true then (groatref04_Wider.l0 k x0 x1 (wrap64 (x5 + 1))) else (some false))) else (groatref04_Wider.l0 k x0 x1 (wrap64 (x5 + 1))))) else (some true)
end
def groatref04_Wider.f (k : Nat) (a0 : Int) (a1 : Int) : Option (Bool) := if a0 < 1 then (groatref04_Wider.j0 k a0 a1 true) else (if a0 > 6 then (groatref04_Wider.j0 k a0 a1 true) else (if a1 < 1 then (groatref04_Wider.j0 k a0 a1 true) else (groatref04_Wider.j0 k a0 a1 (decide (a1 > 6)))))
theorem groatref04_Wider.mono_l : ∀ k, (∀ y0 y1 y2, LeO (groatref04_Wider.j0 k y0 y1 y2) (groatref04_Wider.j0 (k + 1) y0 y1 y2)) ∧ (∀ y0 y1 y2, LeO (groatref04_Wider.l0 k y0 y1 y2) (groatref04_Wider.l0 (k + 1) y0 y1 y2))
  | 0 => ⟨fun _ _ _ r h => by simp [groatref04_Wider.j0] at h, fun _ _ _ r h => by simp [groatref04_Wider.l0] at h⟩
  | k + 1 => by
    obtain ⟨ih0, ih1⟩ := groatref04_Wider.mono_l k
    refine ⟨?_, ?_⟩
    · intro y0 y1 y2
      unfold groatref04_Wider.j0
      repeat' first
      | (with_reducible exact ih0 _ _ _)
      | (with_reducible exact ih1 _ _ _)
      | (with_reducible exact groatref04_Is.mono _ _ _)
      | (with_reducible exact LeO.refl _)
      | (with_reducible exact LeO.none _)
      | (with_reducible refine LeO.ite ?_ ?_)
      | (with_reducible refine LeO.bind ?_ (fun _ => ?_))
      | exact ih0 _ _ _
      | exact ih1 _ _ _
      | exact groatref04_Is.mono _ _ _
      | exact LeO.none _
      | refine LeO.ite ?_ ?_
      | refine LeO.bind ?_ (fun _ => ?_)
    · intro y0 y1 y2
      unfold groatref04_Wider.l0
      repeat' first
      | (with_reducible exact ih0 _ _ _)
      | (with_reducible exact ih1 _ _ _)
      | (with_reducible exact groatref04_Is.mono _ _ _)
      | (with_reducible exact LeO.refl _)
      | (with_reducible exact LeO.none _)
      | (with_reducible refine LeO.ite ?_ ?_)
      | (with_reducible refine LeO.bind ?_ (fun _ => ?_))
      | exact ih0 _ _ _
      | exact ih1 _ _ _
      | exact groatref04_Is.mono _ _ _
      | exact LeO.none _
      | refine LeO.ite ?_ ?_
      | refine LeO.bind ?_ (fun _ => ?_)
theorem groatref04_Wider.mono : ∀ a0 a1 k, LeO (groatref04_Wider.f k a0 a1) (groatref04_Wider.f (k + 1) a0 a1) := by
  intro a0 a1 k
  obtain ⟨ih0, ih1⟩ := groatref04_Wider.mono_l k
  unfold groatref04_Wider.f
  repeat' first
      | (with_reducible exact ih0 _ _ _)
      | (with_reducible exact ih1 _ _ _)
      | (with_reducible exact groatref04_Is.mono _ _ _)
      | (with_reducible exact LeO.refl _)
      | (with_reducible exact LeO.none _)
      | (with_reducible refine LeO.ite ?_ ?_)
      | (with_reducible refine LeO.bind ?_ (fun _ => ?_))
      | exact ih0 _ _ _
      | exact ih1 _ _ _
      | exact groatref04_Is.mono _ _ _
      | exact LeO.none _
      | refine LeO.ite ?_ ?_
      | refine LeO.bind ?_ (fun _ => ?_)
set_option maxHeartbeats 8000000 in
set_option maxRecDepth 100000 in
theorem groatref04_Wider.calls (k : Nat) (a0 : Int) (a1 : Int) (r : Bool) (w : World) (h : groatref04_Wider.f k a0 a1 = some r) :
    Calls Try.prog 32 #[.int .i64 a0, .int .i64 a1] w fun e w' => e = .returned (.bool r) ∧ Drawn0 w w' := by
  have H : (if a0 < 1 then (groatref04_Wider.j0 k a0 a1 true) else (if a0 > 6 then (groatref04_Wider.j0 k a0 a1 true) else (if a1 < 1 then (groatref04_Wider.j0 k a0 a1 true) else (groatref04_Wider.j0 k a0 a1 (decide (a1 > 6)))))) = some r := h
  clear h
  have HC3 := Aside0.mk H
  clear H
  go_enter Try.func32, Try.ntmps32
  go_upto_region 1 with (fail)
  go_cut [19] (fun v19 wc => ∃ (kq : Nat) (x19_2 : Bool), v19 = .bool x19_2 ∧ Aside0 (groatref04_Wider.j0 kq a0 a1 x19_2 = some r) ∧ Aside0 (kq ≤ k) ∧ Drawn0 w wc)
  case first =>
    have H := HC3.out
    clear HC3
    by_cases c4 : a0 < 1
    · rw [if_pos c4] at H
      have c4b0 : decide (a0 < 1) = true := decide_eq_true c4
      clear c4
      (first | rw [c4b0] | (simp only [i64_w, i32_w]; rw [c4b0]) | skip)
      have H' := Aside0.mk H
      clear H
      go_wp2
      go_meet
      case rel => exact ⟨_, (true), (by first | rfl | (simp; done) | (simp [*]; done) | (simp [wrap64]; done)), H', ⟨by first | omega | exact Nat.le_refl _⟩, by repeat (first | exact Drawn0.refl _ | apply Drawn0.step)⟩
    · rw [if_neg c4] at H
      have c4b0 : decide (a0 < 1) = false := decide_eq_false c4
      clear c4
      (first | rw [c4b0] | (simp only [i64_w, i32_w]; rw [c4b0]) | skip)
      by_cases c5 : a0 > 6
      · rw [if_pos c5] at H
        have c5b0 : decide (6 < a0) = true := decide_eq_true c5
        clear c5
        have H' := Aside0.mk H
        clear H
        go_wp2
        go_meet
        case rel => exact ⟨_, (true), (by first | rfl | (simp; done) | (simp [*]; done) | (simp [wrap64]; done)), H', ⟨by first | omega | exact Nat.le_refl _⟩, by repeat (first | exact Drawn0.refl _ | apply Drawn0.step)⟩
      · rw [if_neg c5] at H
        have c5b0 : decide (6 < a0) = false := decide_eq_false c5
        clear c5
        by_cases c6 : a1 < 1
        · rw [if_pos c6] at H
          have c6b0 : decide (a1 < 1) = true := decide_eq_true c6
          clear c6
          have H' := Aside0.mk H
          clear H
          go_wp2
          go_meet
          case rel => exact ⟨_, (true), (by first | rfl | (simp; done) | (simp [*]; done) | (simp [wrap64]; done)), H', ⟨by first | omega | exact Nat.le_refl _⟩, by repeat (first | exact Drawn0.refl _ | apply Drawn0.step)⟩
        · rw [if_neg c6] at H
          have c6b0 : decide (a1 < 1) = false := decide_eq_false c6
          clear c6
          have H' := Aside0.mk H
          clear H
          go_wp2
          go_meet
          case rel => exact ⟨_, (decide (a1 > 6)), (by first | rfl | (simp; done) | (simp [*]; done) | (simp [wrap64]; done)), H', ⟨by first | omega | exact Nat.le_refl _⟩, by repeat (first | exact Drawn0.refl _ | apply Drawn0.step)⟩
  case rest =>
    clear HC3
    try clear p2
    try clear c3
    try clear c4
    try clear c4b0
    try clear c5
    try clear c5b0
    try clear c6
    try clear c6b0
    try clear p6
    obtain ⟨kq, x19_2, rfl, HA, HJ2, ⟨mc2, rfl⟩⟩ := hcut
    cases kq with
    | zero => exact absurd HA.out (by simp [groatref04_Wider.j0])
    | succ kj2 =>
      have H := HA.out
      clear HA
      simp only [groatref04_Wider.j0] at H
      by_cases c7 : x19_2 = true
      · subst c7
        have H1 : (some false) = some r := by rw [if_pos rfl] at H; exact H
        clear H
        have H := H1
        clear H1
        obtain rfl := Option.some.inj H
        go_wp2
        go_ret
        exact ⟨by first | rfl | (simp; done) | (simp [*]; done) | (simp [wrap64]; done), by repeat (first | exact Drawn0.refl _ | apply Drawn0.step)⟩
      · replace c7 := Bool.eq_false_iff.mpr c7
        subst c7
        have H1 : (groatref04_Wider.l0 kj2 a0 a1 0) = some r := by rw [if_neg (show ¬ (false = true) by decide)] at H; exact H
        clear H
        have H := H1
        clear H1
        have H' := Aside0.mk H
        clear H
        go_wp2
        go_loopg [5] kj2 (fun kq v5 w' => ∃ (x5_2 : Int), v5 = .int .i64 x5_2 ∧ Aside0 (groatref04_Wider.l0 kq a0 a1 x5_2 = some r) ∧ Aside0 (kq ≤ kj2) ∧ Drawn0 w w')
        case atStart => exact ⟨(0), (by first | rfl | (simp; done) | (simp [*]; done) | (simp [wrap64]; done)), H', ⟨Nat.le_refl _⟩, by repeat (first | exact Drawn0.refl _ | apply Drawn0.step)⟩
        case round =>
          clear H'
          try clear c2
          try clear p2
          try clear c3
          try clear c4
          try clear c4b0
          try clear c5
          try clear c5b0
          try clear c6
          try clear c6b0
          try clear p6
          try clear c7
          try clear p2
          try clear p6
          obtain ⟨x5_2, rfl, HA, HK2, ⟨m2, rfl⟩⟩ := hrel
          cases gk with
          | zero => exact absurd HA.out (by simp [groatref04_Wider.l0])
          | succ k2 =>
            have H := HA.out
            clear HA
            simp only [groatref04_Wider.l0] at H
            by_cases c8 : x5_2 < 256
            · rw [if_pos c8] at H
              have c8b0 : decide (x5_2 < 256) = true := decide_eq_true c8
              clear c8
              replace H := Option.bind_eq_some_iff.mp H
              obtain ⟨t178, A90, H⟩ := H
              replace H : (if t178 = true then ((groatref04_Is.f k2 a0 ((x5_2) % 256)).bind fun t179 => (if t179 = true then (groatref04_Wider.l0 k2 a0 a1 (wrap64 (x5_2 + 1))) else (some false))) else (groatref04_Wider.l0 k2 a0 a1 (wrap64 (x5_2 + 1)))) = some r := H
              have A9 := Aside0.mk A90
              clear A90
              by_cases c10 : t178 = true
              · subst c10
                have H1 : ((groatref04_Is.f k2 a0 ((x5_2) % 256)).bind fun t179 => (if t179 = true then (groatref04_Wider.l0 k2 a0 a1 (wrap64 (x5_2 + 1))) else (some false))) = some r := by rw [if_pos rfl] at H; exact H
                clear H
                have H := H1
                clear H1
                replace H := Option.bind_eq_some_iff.mp H
                obtain ⟨t179, A110, H⟩ := H
                replace H : (if t179 = true then (groatref04_Wider.l0 k2 a0 a1 (wrap64 (x5_2 + 1))) else (some false)) = some r := H
                have A11 := Aside0.mk A110
                clear A110
                by_cases c12 : t179 = true
                · subst c12
                  have H1 : (groatref04_Wider.l0 k2 a0 a1 (wrap64 (x5_2 + 1))) = some r := by rw [if_pos rfl] at H; exact H
                  clear H
                  have H := H1
                  clear H1
                  have H' := Aside0.mk H
                  clear H
                  go_wp2_with (first | ((with_reducible refine gate_callee (f := 52) rfl ?_); refine goesL_ (some 27) rfl rfl Try.func52 (by kernel_rfl) rfl #[.int .i64 a1, .int .u8 ((x5_2) % 256)] rfl (by (try simp only [List.map_toArray, List.map_cons, List.map_nil]); first | done | rfl | (simp only [List.length_drop, List.length_take]; rfl)) ?_; (with_reducible refine (groatref04_Is.calls k2 a1 ((x5_2) % 256) true _ A9.out).mono ?_); rintro e w' ⟨rfl, ⟨nd, rfl⟩⟩; refine ⟨_, rfl, ?_⟩) | (go_at_call 52; (with_reducible refine (groatref04_Is.calls k2 a0 ((x5_2) % 256) true _ A11.out).mono ?_); rintro e w' ⟨rfl, ⟨nd, rfl⟩⟩))
                  go_roundg k2
                  case measure => have := HJ2.out; have := HK2.out; omega
                  case rel => exact ⟨(wrap64 (x5_2 + 1)), (by first | rfl | (simp; done) | (simp [*]; done) | (simp [wrap64]; done)), H', ⟨by have := HJ2.out; have := HK2.out; omega⟩, by repeat (first | exact Drawn0.refl _ | apply Drawn0.step)⟩
                · replace c12 := Bool.eq_false_iff.mpr c12
                  subst c12
                  have H1 : (some false) = some r := by rw [if_neg (show ¬ (false = true) by decide)] at H; exact H
                  clear H
                  have H := H1
                  clear H1
                  obtain rfl := Option.some.inj H
                  go_wp2_with (first | ((with_reducible refine gate_callee (f := 52) rfl ?_); refine goesL_ (some 27) rfl rfl Try.func52 (by kernel_rfl) rfl #[.int .i64 a1, .int .u8 ((x5_2) % 256)] rfl (by (try simp only [List.map_toArray, List.map_cons, List.map_nil]); first | done | rfl | (simp only [List.length_drop, List.length_take]; rfl)) ?_; (with_reducible refine (groatref04_Is.calls k2 a1 ((x5_2) % 256) true _ A9.out).mono ?_); rintro e w' ⟨rfl, ⟨nd, rfl⟩⟩; refine ⟨_, rfl, ?_⟩) | (go_at_call 52; (with_reducible refine (groatref04_Is.calls k2 a0 ((x5_2) % 256) false _ A11.out).mono ?_); rintro e w' ⟨rfl, ⟨nd, rfl⟩⟩))
                  go_ret
                  exact ⟨by first | rfl | (simp; done) | (simp [*]; done) | (simp [wrap64]; done), by repeat (first | exact Drawn0.refl _ | apply Drawn0.step)⟩
              · replace c10 := Bool.eq_false_iff.mpr c10
                subst c10
                have H1 : (groatref04_Wider.l0 k2 a0 a1 (wrap64 (x5_2 + 1))) = some r := by rw [if_neg (show ¬ (false = true) by decide)] at H; exact H
                clear H
                have H := H1
                clear H1
                have H' := Aside0.mk H
                clear H
                go_wp2_with (first | ((with_reducible refine gate_callee (f := 52) rfl ?_); refine goesL_ (some 27) rfl rfl Try.func52 (by kernel_rfl) rfl #[.int .i64 a1, .int .u8 ((x5_2) % 256)] rfl (by (try simp only [List.map_toArray, List.map_cons, List.map_nil]); first | done | rfl | (simp only [List.length_drop, List.length_take]; rfl)) ?_; (with_reducible refine (groatref04_Is.calls k2 a1 ((x5_2) % 256) false _ A9.out).mono ?_); rintro e w' ⟨rfl, ⟨nd, rfl⟩⟩; refine ⟨_, rfl, ?_⟩))
                go_roundg k2
                case measure => have := HJ2.out; have := HK2.out; omega
                case rel => exact ⟨(wrap64 (x5_2 + 1)), (by first | rfl | (simp; done) | (simp [*]; done) | (simp [wrap64]; done)), H', ⟨by have := HJ2.out; have := HK2.out; omega⟩, by repeat (first | exact Drawn0.refl _ | apply Drawn0.step)⟩
            · rw [if_neg c8] at H
              have c8b0 : decide (x5_2 < 256) = false := decide_eq_false c8
              clear c8
              obtain rfl := Option.some.inj H
              go_wp2
              go_ret
              exact ⟨by first | rfl | (simp; done) | (simp [*]; done) | (simp [wrap64]; done), by repeat (first | exact Drawn0.refl _ | apply Drawn0.step)⟩

end Go.Proofs.Ytfaeodcapagjbaa.P
