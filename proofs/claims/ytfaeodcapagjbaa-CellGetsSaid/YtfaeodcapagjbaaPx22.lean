-- written for this claim by wip/pp.py
import Derived.Test.YtfaeodcapagjbaaPx0
import Derived.Test.YtfaeodcapagjbaaPx8
import Derived.Test.YtfaeodcapagjbaaPx9
import Derived.Test.YtfaeodcapagjbaaPx21
namespace Go.Proofs.Ytfaeodcapagjbaa.P
open Go.RowKit Go.Proofs.YtfaeodcapagjbaaW.PrintWords Go.Proofs.YtfaeodcapagjbaaW.PrintLast Go.Proofs.YtfaeodcapagjbaaW.PrintMore
attribute [local go_sem] max2_int min2_int max_two min_two max_three min_three max_four min_four   -- for this text's walks alone
set_option linter.unusedVariables false
set_option linter.unusedSimpArgs false

/-! ### groatlaw12_CellGets: function 9 -/
def groatlaw12_CellGets.j0 : Nat → Int → ByteArray → Bool → Int → Int → Int → Int → Int → Option (Bool)
 | 0, _, _, _, _, _, _, _, _ => none
 | k + 1, x0, x2, x19, x389000, x389001, x389002, x389003, x389004 => if x19 = true then ((groatlaw12_awake.f k).bind fun t390 => (some t390)) else ((cell_Get.f k x0 x389000 x389001 x389002 x389003 x389004 x2 0).bind fun bt391 => ((groatref12_Get.f k x0 x389000 x389001 x389002 x389003 x389004 x2 0).bind fun bt394 => (if bt391.1.toList = bt394.1.toList then (if bt391.2.1 = bt394.2.1 then (some (bt391.2.2 == bt394.2.2)) else (some false)) else (some false))))
def groatlaw12_CellGets.f (k : Nat) (a0 : Int) (a1_0 : Int) (a1_1 : Int) (a1_2 : Int) (a1_3 : Int) (a1_4 : Int) (a2 : ByteArray) : Option (Bool) := (groatlaw12_awake.f k).bind fun t389 => (if t389 = true then (groatlaw12_CellGets.j0 k a0 a2 (decide ((a2.size : Int) > 2500)) a1_0 a1_1 a1_2 a1_3 a1_4) else (groatlaw12_CellGets.j0 k a0 a2 true a1_0 a1_1 a1_2 a1_3 a1_4))
theorem groatlaw12_CellGets.mono_l : ∀ k, (∀ y0 y1 y2 y3 y4 y5 y6 y7, LeO (groatlaw12_CellGets.j0 k y0 y1 y2 y3 y4 y5 y6 y7) (groatlaw12_CellGets.j0 (k + 1) y0 y1 y2 y3 y4 y5 y6 y7))
 | 0 => fun _ _ _ _ _ _ _ _ r h => by simp [groatlaw12_CellGets.j0] at h
 | k + 1 => by
  have ih0 := groatlaw12_CellGets.mono_l k
  ·intro y0 y1 y2 y3 y4 y5 y6 y7
   unfold groatlaw12_CellGets.j0
   repeat' first
   | (with_reducible exact ih0 _ _ _ _ _ _ _ _)
   | (with_reducible exact cell_Get.mono _ _ _ _ _ _ _ _ _)
   | (with_reducible exact groatlaw12_awake.mono _)
   | (with_reducible exact groatref12_Get.mono _ _ _ _ _ _ _ _ _)
   | (with_reducible exact LeO.refl _)
   | (with_reducible exact LeO.none _)
   | (with_reducible refine LeO.ite ?_ ?_)
   | (with_reducible refine LeO.bind ?_ (fun _ => ?_))
   | exact ih0 _ _ _ _ _ _ _ _
   | exact cell_Get.mono _ _ _ _ _ _ _ _ _
   | exact groatlaw12_awake.mono _
   | exact groatref12_Get.mono _ _ _ _ _ _ _ _ _
   | exact LeO.none _
   | refine LeO.ite ?_ ?_
   | refine LeO.bind ?_ (fun _ => ?_)
theorem groatlaw12_CellGets.mono : ∀ a0 a1 a2 a3 a4 a5 a6 k, LeO (groatlaw12_CellGets.f k a0 a1 a2 a3 a4 a5 a6) (groatlaw12_CellGets.f (k + 1) a0 a1 a2 a3 a4 a5 a6) := by
 intro a0 a1 a2 a3 a4 a5 a6 k
 have ih0 := groatlaw12_CellGets.mono_l k
 unfold groatlaw12_CellGets.f
 repeat' first
   | (with_reducible exact ih0 _ _ _ _ _ _ _ _)
   | (with_reducible exact cell_Get.mono _ _ _ _ _ _ _ _ _)
   | (with_reducible exact groatlaw12_awake.mono _)
   | (with_reducible exact groatref12_Get.mono _ _ _ _ _ _ _ _ _)
   | (with_reducible exact LeO.refl _)
   | (with_reducible exact LeO.none _)
   | (with_reducible refine LeO.ite ?_ ?_)
   | (with_reducible refine LeO.bind ?_ (fun _ => ?_))
   | exact ih0 _ _ _ _ _ _ _ _
   | exact cell_Get.mono _ _ _ _ _ _ _ _ _
   | exact groatlaw12_awake.mono _
   | exact groatref12_Get.mono _ _ _ _ _ _ _ _ _
   | exact LeO.none _
   | refine LeO.ite ?_ ?_
   | refine LeO.bind ?_ (fun _ => ?_)
set_option maxHeartbeats 8000000 in
set_option maxRecDepth 100000 in
theorem groatlaw12_CellGets.calls (k : Nat) (a0 : Int) (a1_0 : Int) (a1_1 : Int) (a1_2 : Int) (a1_3 : Int) (a1_4 : Int) (a2 : ByteArray) (r : Bool) (w : World) (h : groatlaw12_CellGets.f k a0 a1_0 a1_1 a1_2 a1_3 a1_4 a2 = some r) :
  Calls Try.prog 9 #[.int .i64 a0, .agg #[.int .i64 a1_0, .int .i64 a1_1, .int .i64 a1_2, .int .i64 a1_3, .int .i64 a1_4], .string a2] w fun e w' => e = .returned (.bool r) ∧ Below w.heap.size w w' := by
 have hu23 := Try.underlying23
 have HB := Aside0.mk (Below.refl w.heap.size w)
 have H : ((groatlaw12_awake.f k).bind fun t389 => (if t389 = true then (groatlaw12_CellGets.j0 k a0 a2 (decide ((a2.size : Int) > 2500)) a1_0 a1_1 a1_2 a1_3 a1_4) else (groatlaw12_CellGets.j0 k a0 a2 true a1_0 a1_1 a1_2 a1_3 a1_4))) = some r := h
 clear h
 have HC4 := Aside0.mk H
 clear H
 go_enter Try.func9, Try.ntmps9
 go_upto_region 1 with (first | ((with_reducible refine gate_dst (N := 4) rfl ?_); refine box_event ?hg (N := 4) ?hd (cs := #[.int .i64 a1_0, .int .i64 a1_1, .int .i64 a1_2, .int .i64 a1_3, .int .i64 a1_4]) (t := 23) ?hr ?_; (case hd => rfl); (case hg => rfl); (case hr => first | (go_simp; done) | (go_simp; rfl) | (have hu8_ := IntKind.wrap_u8; go_simp; done) | (have hu8_ := IntKind.wrap_u8; go_simp; rfl) | (go_simp; simp [IntKind.wrap_u8]; done)); intro gb388 hg w5 hbox hb; have n0_ := Aside0.mk (below_step (by repeat (first | (with_reducible first | exact HB.out | apply below_alloc | apply pw_below_drewN | apply below_drew1) | exact HB.out)) hb); have n1_ := Aside0.mk (hbox); have n2_ := Aside0.mk ((by rw [hg]; exact (below_size (by repeat (first | (with_reducible first | exact HB.out | apply below_alloc | apply pw_below_drewN | apply below_drew1) | exact HB.out))) : w.heap.size ≤ gb388)); have n3_ := Aside0.mk ((by rw [hg]; exact (below_size (by repeat (first | (with_reducible first | exact HB.out | apply below_alloc | apply pw_below_drewN | apply below_drew1) | exact HB.out))) : w.heap.size ≤ gb388)); clear HB; have HB := n0_; have BK388 := n1_; have GW388 := n2_; have GE388 := n3_; clear n0_ n1_ n2_ n3_; clear hb hbox hg))
 (try simp only [Act.put, List.setIfInBounds_toArray, List.set_cons_zero, List.set_cons_succ])
 go_cut [19] (fun v19 wc => ∃ (kq : Nat) (x19_3 : Bool), v19 = .bool x19_3 ∧ Aside0 (groatlaw12_CellGets.j0 kq a0 a2 x19_3 a1_0 a1_1 a1_2 a1_3 a1_4 = some r) ∧ Aside0 (kq ≤ k) ∧ Aside0 (wc.heap[gb388]? = some (.cells #[.int .i64 a1_0, .int .i64 a1_1, .int .i64 a1_2, .int .i64 a1_3, .int .i64 a1_4] 23 (0, 0))) ∧ Aside0 (Below w.heap.size w wc))
 case first =>
  have H := HC4.out
  clear HC4
  replace H := Option.bind_eq_some_iff.mp H
  obtain ⟨t389, A60, H⟩ := H
  replace H : (if t389 = true then (groatlaw12_CellGets.j0 k a0 a2 (decide ((a2.size : Int) > 2500)) a1_0 a1_1 a1_2 a1_3 a1_4) else (groatlaw12_CellGets.j0 k a0 a2 true a1_0 a1_1 a1_2 a1_3 a1_4)) = some r := H
  have A6 := Aside0.mk A60
  clear A60
  by_cases c7 : t389 = true
  ·subst c7
   have H1 : (groatlaw12_CellGets.j0 k a0 a2 (decide ((a2.size : Int) > 2500)) a1_0 a1_1 a1_2 a1_3 a1_4) = some r := by rw [if_pos rfl] at H; exact H
   clear H
   have H := H1
   clear H1
   have H' := Aside0.mk H
   clear H
   go_wp2_with (first | ((with_reducible refine gate_callee (f := 20) rfl ?_); refine goesL_ (some 13) rfl rfl Try.func20 (by kernel_rfl) rfl #[] rfl (by (try simp only [List.map_toArray, List.map_cons, List.map_nil]); first | done | rfl | (simp only [List.length_drop, List.length_take]; rfl)) ?_; (with_reducible refine (groatlaw12_awake.calls k  true _ A6.out).mono ?_); rintro e w8 ⟨rfl, hb⟩; refine ⟨_, rfl, ?_⟩; have n0_ := Aside0.mk (blk_below (g := gb388) (o := .cells #[.int .i64 a1_0, .int .i64 a1_1, .int .i64 a1_2, .int .i64 a1_3, .int .i64 a1_4] 23 (0, 0)) (by (with_reducible repeat (first | refine blk_drewN ?_ _ | refine blk_drew ?_ | refine blk_alloc ?_ _)); exact BK388.out) hb); have n1_ := Aside0.mk (below_step (by repeat (first | (with_reducible first | exact HB.out | apply below_alloc | apply pw_below_drewN | apply below_drew1 | refine below_set ?_ GE388.out) | exact HB.out)) hb); clear BK388; clear HB; have BK388 := n0_; have HB := n1_; clear n0_ n1_; (try clear hb); (try clear hb2); (try clear hk); (try clear hi)))
   go_meet
   case rel => exact ⟨_, (decide ((a2.size : Int) > 2500)), (by first | rfl | (simp; done) | (simp [*]; done) | (simp [wrap64]; done)), H', ⟨by first | omega | exact Nat.le_refl _⟩, ⟨by (with_reducible repeat (first | refine blk_drewN ?_ _ | refine blk_drew ?_ | refine blk_alloc ?_ _)); exact BK388.out⟩, ⟨by repeat (first | (with_reducible first | exact HB.out | apply below_alloc | apply pw_below_drewN | apply below_drew1 | refine below_set ?_ GE388.out) | exact HB.out)⟩⟩
  ·replace c7 := Bool.eq_false_iff.mpr c7
   subst c7
   have H1 : (groatlaw12_CellGets.j0 k a0 a2 true a1_0 a1_1 a1_2 a1_3 a1_4) = some r := by rw [if_neg (show ¬ (false = true) by decide)] at H; exact H
   clear H
   have H := H1
   clear H1
   have H' := Aside0.mk H
   clear H
   go_wp2_with (first | ((with_reducible refine gate_callee (f := 20) rfl ?_); refine goesL_ (some 13) rfl rfl Try.func20 (by kernel_rfl) rfl #[] rfl (by (try simp only [List.map_toArray, List.map_cons, List.map_nil]); first | done | rfl | (simp only [List.length_drop, List.length_take]; rfl)) ?_; (with_reducible refine (groatlaw12_awake.calls k  false _ A6.out).mono ?_); rintro e w9 ⟨rfl, hb⟩; refine ⟨_, rfl, ?_⟩; have n0_ := Aside0.mk (blk_below (g := gb388) (o := .cells #[.int .i64 a1_0, .int .i64 a1_1, .int .i64 a1_2, .int .i64 a1_3, .int .i64 a1_4] 23 (0, 0)) (by (with_reducible repeat (first | refine blk_drewN ?_ _ | refine blk_drew ?_ | refine blk_alloc ?_ _)); exact BK388.out) hb); have n1_ := Aside0.mk (below_step (by repeat (first | (with_reducible first | exact HB.out | apply below_alloc | apply pw_below_drewN | apply below_drew1 | refine below_set ?_ GE388.out) | exact HB.out)) hb); clear BK388; clear HB; have BK388 := n0_; have HB := n1_; clear n0_ n1_; (try clear hb); (try clear hb2); (try clear hk); (try clear hi)))
   go_meet
   case rel => exact ⟨_, (true), (by first | rfl | (simp; done) | (simp [*]; done) | (simp [wrap64]; done)), H', ⟨by first | omega | exact Nat.le_refl _⟩, ⟨by (with_reducible repeat (first | refine blk_drewN ?_ _ | refine blk_drew ?_ | refine blk_alloc ?_ _)); exact BK388.out⟩, ⟨by repeat (first | (with_reducible first | exact HB.out | apply below_alloc | apply pw_below_drewN | apply below_drew1 | refine below_set ?_ GE388.out) | exact HB.out)⟩⟩
 case rest =>
  clear HC4
  try clear c2
  try clear p2
  try clear p6
  try clear c7
  try clear c9
  obtain ⟨kq, x19_3, rfl, HA, HJ3, BK388, HB⟩ := hcut
  cases kq with
  | zero => exact absurd HA.out (by simp [groatlaw12_CellGets.j0])
  | succ kj3 =>
   have H := HA.out
   clear HA
   simp only [groatlaw12_CellGets.j0] at H
   by_cases c10 : x19_3 = true
   ·subst c10
    have H1 : ((groatlaw12_awake.f kj3).bind fun t390 => (some t390)) = some r := by rw [if_pos rfl] at H; exact H
    clear H
    have H := H1
    clear H1
    replace H := Option.bind_eq_some_iff.mp H
    obtain ⟨t390, A110, H⟩ := H
    replace H : (some t390) = some r := H
    have A11 := Aside0.mk A110
    clear A110
    obtain rfl := Option.some.inj H
    go_wp2_with (first | ((with_reducible refine gate_callee (f := 20) rfl ?_); refine goesL_ (some 20) rfl rfl Try.func20 (by kernel_rfl) rfl #[] rfl (by (try simp only [List.map_toArray, List.map_cons, List.map_nil]); first | done | rfl | (simp only [List.length_drop, List.length_take]; rfl)) ?_; (with_reducible refine (groatlaw12_awake.calls kj3  t390 _ A11.out).mono ?_); rintro e w12 ⟨rfl, hb⟩; refine ⟨_, rfl, ?_⟩; have n0_ := Aside0.mk (blk_below (g := gb388) (o := .cells #[.int .i64 a1_0, .int .i64 a1_1, .int .i64 a1_2, .int .i64 a1_3, .int .i64 a1_4] 23 (0, 0)) (by (with_reducible repeat (first | refine blk_drewN ?_ _ | refine blk_drew ?_ | refine blk_alloc ?_ _)); exact BK388.out) hb); have n1_ := Aside0.mk (below_step (by repeat (first | (with_reducible first | exact HB.out | apply below_alloc | apply pw_below_drewN | apply below_drew1 | refine below_set ?_ GE388.out) | exact HB.out)) hb); clear BK388; clear HB; have BK388 := n0_; have HB := n1_; clear n0_ n1_; (try clear hb); (try clear hb2); (try clear hk); (try clear hi)))
    go_ret
    exact ⟨by first | rfl | (simp [errW_none, errW_some] <;> rfl) | (simp [*, errW_none, errW_some] <;> rfl), by repeat (first | (with_reducible first | exact HB.out | apply below_alloc | apply pw_below_drewN | apply below_drew1 | refine below_set ?_ GE388.out) | exact HB.out)⟩
   ·replace c10 := Bool.eq_false_iff.mpr c10
    subst c10
    have H1 : ((cell_Get.f kj3 a0 a1_0 a1_1 a1_2 a1_3 a1_4 a2 0).bind fun bt391 => ((groatref12_Get.f kj3 a0 a1_0 a1_1 a1_2 a1_3 a1_4 a2 0).bind fun bt394 => (if bt391.1.toList = bt394.1.toList then (if bt391.2.1 = bt394.2.1 then (some (bt391.2.2 == bt394.2.2)) else (some false)) else (some false)))) = some r := by rw [if_neg (show ¬ (false = true) by decide)] at H; exact H
    clear H
    have H := H1
    clear H1
    replace H := Option.bind_eq_some_iff.mp H
    obtain ⟨⟨t391, t392, t393⟩, A130, H⟩ := H
    replace H : ((groatref12_Get.f kj3 a0 a1_0 a1_1 a1_2 a1_3 a1_4 a2 0).bind fun bt394 => (if t391.toList = bt394.1.toList then (if t392 = bt394.2.1 then (some (t393 == bt394.2.2)) else (some false)) else (some false))) = some r := H
    have A13 := Aside0.mk A130
    clear A130
    replace H := Option.bind_eq_some_iff.mp H
    obtain ⟨⟨t394, t395, t396⟩, A140, H⟩ := H
    replace H : (if t391.toList = t394.toList then (if t392 = t395 then (some (t393 == t396)) else (some false)) else (some false)) = some r := H
    have A14 := Aside0.mk A140
    clear A140
    by_cases c15 : t391.toList = t394.toList
    ·rw [if_pos c15] at H
     have c15b0 : (t391.toList == t394.toList) = true := beq_iff_eq.mpr c15
     have c15b1 : (t391.toList != t394.toList) = false := bne_eq_false_iff_eq.mpr c15
     clear c15
     by_cases c16 : t392 = t395
     ·rw [if_pos c16] at H
      have c16b0 : (t392 == t395) = true := beq_iff_eq.mpr c16
      have c16b1 : (t392 != t395) = false := bne_eq_false_iff_eq.mpr c16
      clear c16
      obtain rfl := Option.some.inj H
      have hcz17_0 : wc.cell? ⟨gb388, 0, none⟩ = some (.int .i64 a1_0) := (blk_cell BK388.out 0).trans rfl
      have hcz17_1 : wc.cell? ⟨gb388, 1, none⟩ = some (.int .i64 a1_1) := (blk_cell BK388.out 1).trans rfl
      have hcz17_2 : wc.cell? ⟨gb388, 2, none⟩ = some (.int .i64 a1_2) := (blk_cell BK388.out 2).trans rfl
      have hcz17_3 : wc.cell? ⟨gb388, 3, none⟩ = some (.int .i64 a1_3) := (blk_cell BK388.out 3).trans rfl
      have hcz17_4 : wc.cell? ⟨gb388, 4, none⟩ = some (.int .i64 a1_4) := (blk_cell BK388.out 4).trans rfl
      have hfz17_0 := blk_frozen BK388.out 0
      have hfz17_1 := blk_frozen BK388.out 1
      have hfz17_2 := blk_frozen BK388.out 2
      have hfz17_3 := blk_frozen BK388.out 3
      have hfz17_4 := blk_frozen BK388.out 4
      go_wp2_with (first | ((with_reducible refine gate_callee (f := 23) rfl ?_); refine goesL_ (some 25) rfl rfl Try.func23 (by kernel_rfl) rfl #[.int .i64 a0, .agg #[.int .i64 a1_0, .int .i64 a1_1, .int .i64 a1_2, .int .i64 a1_3, .int .i64 a1_4], .string a2, .int .i64 0] rfl (by (try simp only [List.map_toArray, List.map_cons, List.map_nil]); first | done | rfl | (simp only [List.length_drop, List.length_take]; rfl)) ?_; (with_reducible refine (cell_Get.calls kj3 a0 a1_0 a1_1 a1_2 a1_3 a1_4 a2 0 t391 t392 t393 _ A13.out).mono ?_); rintro e w18 ⟨rfl, hb⟩; refine ⟨_, rfl, ?_⟩; have n0_ := Aside0.mk (blk_below (g := gb388) (o := .cells #[.int .i64 a1_0, .int .i64 a1_1, .int .i64 a1_2, .int .i64 a1_3, .int .i64 a1_4] 23 (0, 0)) (by (with_reducible repeat (first | refine blk_drewN ?_ _ | refine blk_drew ?_ | refine blk_alloc ?_ _)); exact BK388.out) hb); have n1_ := Aside0.mk (below_step (by repeat (first | (with_reducible first | exact HB.out | apply below_alloc | apply pw_below_drewN | apply below_drew1 | refine below_set ?_ GE388.out) | exact HB.out)) hb); clear BK388; clear HB; have BK388 := n0_; have HB := n1_; clear n0_ n1_; (try clear hb); (try clear hb2); (try clear hk); (try clear hi); have hcz19_0 : w18.cell? ⟨gb388, 0, none⟩ = some (.int .i64 a1_0) := (blk_cell BK388.out 0).trans rfl; have hcz19_1 : w18.cell? ⟨gb388, 1, none⟩ = some (.int .i64 a1_1) := (blk_cell BK388.out 1).trans rfl; have hcz19_2 : w18.cell? ⟨gb388, 2, none⟩ = some (.int .i64 a1_2) := (blk_cell BK388.out 2).trans rfl; have hcz19_3 : w18.cell? ⟨gb388, 3, none⟩ = some (.int .i64 a1_3) := (blk_cell BK388.out 3).trans rfl; have hcz19_4 : w18.cell? ⟨gb388, 4, none⟩ = some (.int .i64 a1_4) := (blk_cell BK388.out 4).trans rfl; have hfz19_0 := blk_frozen BK388.out 0; have hfz19_1 := blk_frozen BK388.out 1; have hfz19_2 := blk_frozen BK388.out 2; have hfz19_3 := blk_frozen BK388.out 3; have hfz19_4 := blk_frozen BK388.out 4) | ((with_reducible refine gate_callee (f := 24) rfl ?_); refine goesL_ (some 33) rfl rfl Try.func24 (by kernel_rfl) rfl #[.int .i64 a0, .agg #[.int .i64 a1_0, .int .i64 a1_1, .int .i64 a1_2, .int .i64 a1_3, .int .i64 a1_4], .string a2, .int .i64 0] rfl (by (try simp only [List.map_toArray, List.map_cons, List.map_nil]); first | done | rfl | (simp only [List.length_drop, List.length_take]; rfl)) ?_; (with_reducible refine (groatref12_Get.calls kj3 a0 a1_0 a1_1 a1_2 a1_3 a1_4 a2 0 t394 t395 t396 _ A14.out).mono ?_); rintro e w20 ⟨rfl, hb⟩; refine ⟨_, rfl, ?_⟩; have n0_ := Aside0.mk (blk_below (g := gb388) (o := .cells #[.int .i64 a1_0, .int .i64 a1_1, .int .i64 a1_2, .int .i64 a1_3, .int .i64 a1_4] 23 (0, 0)) (by (with_reducible repeat (first | refine blk_drewN ?_ _ | refine blk_drew ?_ | refine blk_alloc ?_ _)); exact BK388.out) hb); have n1_ := Aside0.mk (below_step (by repeat (first | (with_reducible first | exact HB.out | apply below_alloc | apply pw_below_drewN | apply below_drew1 | refine below_set ?_ GE388.out) | exact HB.out)) hb); clear BK388; clear HB; have BK388 := n0_; have HB := n1_; clear n0_ n1_; (try clear hb); (try clear hb2); (try clear hk); (try clear hi)))
      go_ret
      exact ⟨by first | rfl | (simp [errW_none, errW_some] <;> rfl) | (simp [*, errW_none, errW_some] <;> rfl), by repeat (first | (with_reducible first | exact HB.out | apply below_alloc | apply pw_below_drewN | apply below_drew1 | refine below_set ?_ GE388.out) | exact HB.out)⟩
     ·rw [if_neg c16] at H
      have c16b0 : (t392 == t395) = false := beq_eq_false_iff_ne.mpr c16
      have c16b1 : (t392 != t395) = true := bne_iff_ne.mpr c16
      obtain rfl := Option.some.inj H
      have hcz21_0 : wc.cell? ⟨gb388, 0, none⟩ = some (.int .i64 a1_0) := (blk_cell BK388.out 0).trans rfl
      have hcz21_1 : wc.cell? ⟨gb388, 1, none⟩ = some (.int .i64 a1_1) := (blk_cell BK388.out 1).trans rfl
      have hcz21_2 : wc.cell? ⟨gb388, 2, none⟩ = some (.int .i64 a1_2) := (blk_cell BK388.out 2).trans rfl
      have hcz21_3 : wc.cell? ⟨gb388, 3, none⟩ = some (.int .i64 a1_3) := (blk_cell BK388.out 3).trans rfl
      have hcz21_4 : wc.cell? ⟨gb388, 4, none⟩ = some (.int .i64 a1_4) := (blk_cell BK388.out 4).trans rfl
      have hfz21_0 := blk_frozen BK388.out 0
      have hfz21_1 := blk_frozen BK388.out 1
      have hfz21_2 := blk_frozen BK388.out 2
      have hfz21_3 := blk_frozen BK388.out 3
      have hfz21_4 := blk_frozen BK388.out 4
      go_wp2_with (first | ((with_reducible refine gate_callee (f := 23) rfl ?_); refine goesL_ (some 25) rfl rfl Try.func23 (by kernel_rfl) rfl #[.int .i64 a0, .agg #[.int .i64 a1_0, .int .i64 a1_1, .int .i64 a1_2, .int .i64 a1_3, .int .i64 a1_4], .string a2, .int .i64 0] rfl (by (try simp only [List.map_toArray, List.map_cons, List.map_nil]); first | done | rfl | (simp only [List.length_drop, List.length_take]; rfl)) ?_; (with_reducible refine (cell_Get.calls kj3 a0 a1_0 a1_1 a1_2 a1_3 a1_4 a2 0 t391 t392 t393 _ A13.out).mono ?_); rintro e w22 ⟨rfl, hb⟩; refine ⟨_, rfl, ?_⟩; have n0_ := Aside0.mk (blk_below (g := gb388) (o := .cells #[.int .i64 a1_0, .int .i64 a1_1, .int .i64 a1_2, .int .i64 a1_3, .int .i64 a1_4] 23 (0, 0)) (by (with_reducible repeat (first | refine blk_drewN ?_ _ | refine blk_drew ?_ | refine blk_alloc ?_ _)); exact BK388.out) hb); have n1_ := Aside0.mk (below_step (by repeat (first | (with_reducible first | exact HB.out | apply below_alloc | apply pw_below_drewN | apply below_drew1 | refine below_set ?_ GE388.out) | exact HB.out)) hb); clear BK388; clear HB; have BK388 := n0_; have HB := n1_; clear n0_ n1_; (try clear hb); (try clear hb2); (try clear hk); (try clear hi); have hcz23_0 : w22.cell? ⟨gb388, 0, none⟩ = some (.int .i64 a1_0) := (blk_cell BK388.out 0).trans rfl; have hcz23_1 : w22.cell? ⟨gb388, 1, none⟩ = some (.int .i64 a1_1) := (blk_cell BK388.out 1).trans rfl; have hcz23_2 : w22.cell? ⟨gb388, 2, none⟩ = some (.int .i64 a1_2) := (blk_cell BK388.out 2).trans rfl; have hcz23_3 : w22.cell? ⟨gb388, 3, none⟩ = some (.int .i64 a1_3) := (blk_cell BK388.out 3).trans rfl; have hcz23_4 : w22.cell? ⟨gb388, 4, none⟩ = some (.int .i64 a1_4) := (blk_cell BK388.out 4).trans rfl; have hfz23_0 := blk_frozen BK388.out 0; have hfz23_1 := blk_frozen BK388.out 1; have hfz23_2 := blk_frozen BK388.out 2; have hfz23_3 := blk_frozen BK388.out 3; have hfz23_4 := blk_frozen BK388.out 4) | ((with_reducible refine gate_callee (f := 24) rfl ?_); refine goesL_ (some 33) rfl rfl Try.func24 (by kernel_rfl) rfl #[.int .i64 a0, .agg #[.int .i64 a1_0, .int .i64 a1_1, .int .i64 a1_2, .int .i64 a1_3, .int .i64 a1_4], .string a2, .int .i64 0] rfl (by (try simp only [List.map_toArray, List.map_cons, List.map_nil]); first | done | rfl | (simp only [List.length_drop, List.length_take]; rfl)) ?_; (with_reducible refine (groatref12_Get.calls kj3 a0 a1_0 a1_1 a1_2 a1_3 a1_4 a2 0 t394 t395 t396 _ A14.out).mono ?_); rintro e w24 ⟨rfl, hb⟩; refine ⟨_, rfl, ?_⟩; have n0_ := Aside0.mk (blk_below (g := gb388) (o := .cells #[.int .i64 a1_0, .int .i64 a1_1, .int .i64 a1_2, .int .i64 a1_3, .int .i64 a1_4] 23 (0, 0)) (by (with_reducible repeat (first | refine blk_drewN ?_ _ | refine blk_drew ?_ | refine blk_alloc ?_ _)); exact BK388.out) hb); have n1_ := Aside0.mk (below_step (by repeat (first | (with_reducible first | exact HB.out | apply below_alloc | apply pw_below_drewN | apply below_drew1 | refine below_set ?_ GE388.out) | exact HB.out)) hb); clear BK388; clear HB; have BK388 := n0_; have HB := n1_; clear n0_ n1_; (try clear hb); (try clear hb2); (try clear hk); (try clear hi)))
      go_ret
      exact ⟨by first | rfl | (simp [errW_none, errW_some] <;> rfl) | (simp [*, errW_none, errW_some] <;> rfl), by repeat (first | (with_reducible first | exact HB.out | apply below_alloc | apply pw_below_drewN | apply below_drew1 | refine below_set ?_ GE388.out) | exact HB.out)⟩
    ·rw [if_neg c15] at H
     have c15b0 : (t391.toList == t394.toList) = false := beq_eq_false_iff_ne.mpr c15
     have c15b1 : (t391.toList != t394.toList) = true := bne_iff_ne.mpr c15
     obtain rfl := Option.some.inj H
     have hcz25_0 : wc.cell? ⟨gb388, 0, none⟩ = some (.int .i64 a1_0) := (blk_cell BK388.out 0).trans rfl
     have hcz25_1 : wc.cell? ⟨gb388, 1, none⟩ = some (.int .i64 a1_1) := (blk_cell BK388.out 1).trans rfl
     have hcz25_2 : wc.cell? ⟨gb388, 2, none⟩ = some (.int .i64 a1_2) := (blk_cell BK388.out 2).trans rfl
     have hcz25_3 : wc.cell? ⟨gb388, 3, none⟩ = some (.int .i64 a1_3) := (blk_cell BK388.out 3).trans rfl
     have hcz25_4 : wc.cell? ⟨gb388, 4, none⟩ = some (.int .i64 a1_4) := (blk_cell BK388.out 4).trans rfl
     have hfz25_0 := blk_frozen BK388.out 0
     have hfz25_1 := blk_frozen BK388.out 1
     have hfz25_2 := blk_frozen BK388.out 2
     have hfz25_3 := blk_frozen BK388.out 3
     have hfz25_4 := blk_frozen BK388.out 4
     go_wp2_with (first | ((with_reducible refine gate_callee (f := 23) rfl ?_); refine goesL_ (some 25) rfl rfl Try.func23 (by kernel_rfl) rfl #[.int .i64 a0, .agg #[.int .i64 a1_0, .int .i64 a1_1, .int .i64 a1_2, .int .i64 a1_3, .int .i64 a1_4], .string a2, .int .i64 0] rfl (by (try simp only [List.map_toArray, List.map_cons, List.map_nil]); first | done | rfl | (simp only [List.length_drop, List.length_take]; rfl)) ?_; (with_reducible refine (cell_Get.calls kj3 a0 a1_0 a1_1 a1_2 a1_3 a1_4 a2 0 t391 t392 t393 _ A13.out).mono ?_); rintro e w26 ⟨rfl, hb⟩; refine ⟨_, rfl, ?_⟩; have n0_ := Aside0.mk (blk_below (g := gb388) (o := .cells #[.int .i64 a1_0, .int .i64 a1_1, .int .i64 a1_2, .int .i64 a1_3, .int .i64 a1_4] 23 (0, 0)) (by (with_reducible repeat (first | refine blk_drewN ?_ _ | refine blk_drew ?_ | refine blk_alloc ?_ _)); exact BK388.out) hb); have n1_ := Aside0.mk (below_step (by repeat (first | (with_reducible first | exact HB.out | apply below_alloc | apply pw_below_drewN | apply below_drew1 | refine below_set ?_ GE388.out) | exact HB.out)) hb); clear BK388; clear HB; have BK388 := n0_; have HB := n1_; clear n0_ n1_; (try clear hb); (try clear hb2); (try clear hk); (try clear hi); have hcz27_0 : w26.cell? ⟨gb388, 0, none⟩ = some (.int .i64 a1_0) := (blk_cell BK388.out 0).trans rfl; have hcz27_1 : w26.cell? ⟨gb388, 1, none⟩ = some (.int .i64 a1_1) := (blk_cell BK388.out 1).trans rfl; have hcz27_2 : w26.cell? ⟨gb388, 2, none⟩ = some (.int .i64 a1_2) := (blk_cell BK388.out 2).trans rfl; have hcz27_3 : w26.cell? ⟨gb388, 3, none⟩ = some (.int .i64 a1_3) := (blk_cell BK388.out 3).trans rfl; have hcz27_4 : w26.cell? ⟨gb388, 4, none⟩ = some (.int .i64 a1_4) := (blk_cell BK388.out 4).trans rfl; have hfz27_0 := blk_frozen BK388.out 0; have hfz27_1 := blk_frozen BK388.out 1; have hfz27_2 := blk_frozen BK388.out 2; have hfz27_3 := blk_frozen BK388.out 3; have hfz27_4 := blk_frozen BK388.out 4) | ((with_reducible refine gate_callee (f := 24) rfl ?_); refine goesL_ (some 33) rfl rfl Try.func24 (by kernel_rfl) rfl #[.int .i64 a0, .agg #[.int .i64 a1_0, .int .i64 a1_1, .int .i64 a1_2, .int .i64 a1_3, .int .i64 a1_4], .string a2, .int .i64 0] rfl (by (try simp only [List.map_toArray, List.map_cons, List.map_nil]); first | done | rfl | (simp only [List.length_drop, List.length_take]; rfl)) ?_; (with_reducible refine (groatref12_Get.calls kj3 a0 a1_0 a1_1 a1_2 a1_3 a1_4 a2 0 t394 t395 t396 _ A14.out).mono ?_); rintro e w28 ⟨rfl, hb⟩; refine ⟨_, rfl, ?_⟩; have n0_ := Aside0.mk (blk_below (g := gb388) (o := .cells #[.int .i64 a1_0, .int .i64 a1_1, .int .i64 a1_2, .int .i64 a1_3, .int .i64 a1_4] 23 (0, 0)) (by (with_reducible repeat (first | refine blk_drewN ?_ _ | refine blk_drew ?_ | refine blk_alloc ?_ _)); exact BK388.out) hb); have n1_ := Aside0.mk (below_step (by repeat (first | (with_reducible first | exact HB.out | apply below_alloc | apply pw_below_drewN | apply below_drew1 | refine below_set ?_ GE388.out) | exact HB.out)) hb); clear BK388; clear HB; have BK388 := n0_; have HB := n1_; clear n0_ n1_; (try clear hb); (try clear hb2); (try clear hk); (try clear hi)))
     go_ret
     exact ⟨by first | rfl | (simp [errW_none, errW_some] <;> rfl) | (simp [*, errW_none, errW_some] <;> rfl), by repeat (first | (with_reducible first | exact HB.out | apply below_alloc | apply pw_below_drewN | apply below_drew1 | refine below_set ?_ GE388.out) | exact HB.out)⟩

/-- THE ONE PURE STATEMENT of groatlaw12_CellGets. -/
def groatlaw12_CellGets.Pure : Prop := ∀ (x0 : Int) (x1 : S23) (x2 : ByteArray), (Lit.int .i64 x0).wf = true → Q23 x1 → x2.size ≤ 140737488351232 → ∃ k, groatlaw12_CellGets.f k x0 x1.f0 x1.f1 x1.f2 x1.f3 x1.f4 x2 = some true

end Go.Proofs.Ytfaeodcapagjbaa.P
