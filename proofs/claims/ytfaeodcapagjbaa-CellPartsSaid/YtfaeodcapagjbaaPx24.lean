-- written for this claim by wip/pp.py
import Derived.Test.YtfaeodcapagjbaaPx0
import Derived.Test.YtfaeodcapagjbaaPx8
import Derived.Test.YtfaeodcapagjbaaPx9
namespace Go.Proofs.Ytfaeodcapagjbaa.P
open Go.RowKit Go.Proofs.YtfaeodcapagjbaaW.PrintWords Go.Proofs.YtfaeodcapagjbaaW.PrintLast Go.Proofs.YtfaeodcapagjbaaW.PrintMore
attribute [local go_sem] max2_int min2_int max_two min_two max_three min_three max_four min_four   -- for this text's walks alone
set_option linter.unusedVariables false
set_option linter.unusedSimpArgs false

/-! ### groatlaw12_CellParts: function 12 -/
mutual
def groatlaw12_CellParts.j0 : Nat → ByteArray → Bool → Int → Int → Int → Int → Int → ByteArray → ByteArray → Option (Bool)
 | 0, _, _, _, _, _, _, _, _, _ => none
 | k + 1, x1, x32, x414000, x414001, x414002, x414003, x414004, x415000, x415001 => if x32 = true then ((groatlaw12_awake.f k).bind fun t416 => (some t416)) else (groatlaw12_CellParts.l0 k x1 1 x414000 x414001 x414002 x414003 x414004 x415000 x415001)
def groatlaw12_CellParts.l0 : Nat → ByteArray → Int → Int → Int → Int → Int → Int → ByteArray → ByteArray → Option (Bool)
 | 0, _, _, _, _, _, _, _, _, _ => none
 | k + 1, x1, x7, x414000, x414001, x414002, x414003, x414004, x415000, x415001 => if x7 ≤ 2 then ((cell_Get.f k x7 x414000 x414001 x414002 x414003 x414004 x1 0).bind fun bt417 => (if x415000.size + x1.size ≤ 9223372036854775807 then ((cell_Get.f k x7 x414000 x414001 x414002 x414003 x414004 (x415000 ++ x1) (x415000.size : Int)).bind fun bt420 => (if bt417.1.toList = bt420.1.toList then (if bt417.2.2 = bt420.2.2 then (if bt417.2.2 = 0 then (groatlaw12_CellParts.j2 k x1 x7 bt417.1 bt417.2.1 bt417.2.2 (bt420.2.1 != (wrap64 (bt417.2.1 + (x415000.size : Int)))) x414000 x414001 x414002 x414003 x414004 x415000 x415001) else (groatlaw12_CellParts.j2 k x1 x7 bt417.1 bt417.2.1 bt417.2.2 false x414000 x414001 x414002 x414003 x414004 x415000 x415001)) else (groatlaw12_CellParts.j2 k x1 x7 bt417.1 bt417.2.1 bt417.2.2 true x414000 x414001 x414002 x414003 x414004 x415000 x415001)) else (groatlaw12_CellParts.j2 k x1 x7 bt417.1 bt417.2.1 bt417.2.2 true x414000 x414001 x414002 x414003 x414004 x415000 x415001))) else (none))) else (some true)
def groatlaw12_CellParts.j2 : Nat → ByteArray → Int → ByteArray → Int → Int → Bool → Int → Int → Int → Int → Int → ByteArray → ByteArray → Option (Bool)
 | 0, _, _, _, _, _, _, _, _, _, _, _, _, _ => none
 | k + 1, x1, x7, x8, x9, x10, x80, x414000, x414001, x414002, x414003, x414004, x415000, x415001 => if x80 = true then (some false) else (if x10 = 0 then (if x1.size + x415001.size ≤ 9223372036854775807 then ((cell_Get.f k x7 x414000 x414001 x414002 x414003 x414004 (x1 ++ x415001) 0).bind fun bt423 => (if x8.toList = bt423.1.toList then (if bt423.2.2 = 0 then (if bt423.2.1 = x9 then (groatlaw12_CellParts.l0 k x1 (wrap64 (x7 + 1)) x414000 x414001 x414002 x414003 x414004 x415000 x415001) else (some false)) else (some false)) else (some false))) else (none)) else (groatlaw12_CellParts.l0 k x1 (wrap64 (x7 + 1)) x414000 x414001 x414002 x414003 x414004 x415000 x415001))
end
def groatlaw12_CellParts.f (k : Nat) (a0_0 : Int) (a0_1 : Int) (a0_2 : Int) (a0_3 : Int) (a0_4 : Int) (a1 : ByteArray) (a2_0 : ByteArray) (a2_1 : ByteArray) : Option (Bool) := (groatlaw12_awake.f k).bind fun t415 => (if t415 = true then (if (a1.size : Int) > 2500 then (groatlaw12_CellParts.j0 k a1 true a0_0 a0_1 a0_2 a0_3 a0_4 a2_0 a2_1) else (if (a2_0.size : Int) > 100 then (groatlaw12_CellParts.j0 k a1 true a0_0 a0_1 a0_2 a0_3 a0_4 a2_0 a2_1) else (groatlaw12_CellParts.j0 k a1 (decide ((a2_1.size : Int) > 100)) a0_0 a0_1 a0_2 a0_3 a0_4 a2_0 a2_1))) else (groatlaw12_CellParts.j0 k a1 true a0_0 a0_1 a0_2 a0_3 a0_4 a2_0 a2_1))
theorem groatlaw12_CellParts.mono_l : ∀ k, (∀ y0 y1 y2 y3 y4 y5 y6 y7 y8, LeO (groatlaw12_CellParts.j0 k y0 y1 y2 y3 y4 y5 y6 y7 y8) (groatlaw12_CellParts.j0 (k + 1) y0 y1 y2 y3 y4 y5 y6 y7 y8)) ∧ (∀ y0 y1 y2 y3 y4 y5 y6 y7 y8, LeO (groatlaw12_CellParts.l0 k y0 y1 y2 y3 y4 y5 y6 y7 y8) (groatlaw12_CellParts.l0 (k + 1) y0 y1 y2 y3 y4 y5 y6 y7 y8)) ∧ (∀ y0 y1 y2 y3 y4 y5 y6 y7 y8 y9 y10 y11 y12, LeO (groatlaw12_CellParts.j2 k y0 y1 y2 y3 y4 y5 y6 y7 y8 y9 y10 y11 y12) (groatlaw12_CellParts.j2 (k + 1) y0 y1 y2 y3 y4 y5 y6 y7 y8 y9 y10 y11 y12))
 | 0 => ⟨fun _ _ _ _ _ _ _ _ _ r h => by simp [groatlaw12_CellParts.j0] at h, fun _ _ _ _ _ _ _ _ _ r h => by simp [groatlaw12_CellParts.l0] at h, fun _ _ _ _ _ _ _ _ _ _ _ _ _ r h => by simp [groatlaw12_CellParts.j2] at h⟩
 | k + 1 => by
  obtain ⟨ih0, ih1, ih2⟩ := groatlaw12_CellParts.mono_l k
  refine ⟨?_, ?_, ?_⟩
  ·intro y0 y1 y2 y3 y4 y5 y6 y7 y8
   unfold groatlaw12_CellParts.j0
   repeat' first
   | (with_reducible exact ih0 _ _ _ _ _ _ _ _ _)
   | (with_reducible exact ih1 _ _ _ _ _ _ _ _ _)
   | (with_reducible exact ih2 _ _ _ _ _ _ _ _ _ _ _ _ _)
   | (with_reducible exact cell_Get.mono _ _ _ _ _ _ _ _ _)
   | (with_reducible exact groatlaw12_awake.mono _)
   | (with_reducible exact LeO.refl _)
   | (with_reducible exact LeO.none _)
   | (with_reducible refine LeO.ite ?_ ?_)
   | (with_reducible refine LeO.bind ?_ (fun _ => ?_))
   | exact ih0 _ _ _ _ _ _ _ _ _
   | exact ih1 _ _ _ _ _ _ _ _ _
   | exact ih2 _ _ _ _ _ _ _ _ _ _ _ _ _
   | exact cell_Get.mono _ _ _ _ _ _ _ _ _
   | exact groatlaw12_awake.mono _
   | exact LeO.none _
   | refine LeO.ite ?_ ?_
   | refine LeO.bind ?_ (fun _ => ?_)
  ·intro y0 y1 y2 y3 y4 y5 y6 y7 y8
   unfold groatlaw12_CellParts.l0
   repeat' first
   | (with_reducible exact ih0 _ _ _ _ _ _ _ _ _)
   | (with_reducible exact ih1 _ _ _ _ _ _ _ _ _)
   | (with_reducible exact ih2 _ _ _ _ _ _ _ _ _ _ _ _ _)
   | (with_reducible exact cell_Get.mono _ _ _ _ _ _ _ _ _)
   | (with_reducible exact groatlaw12_awake.mono _)
   | (with_reducible exact LeO.refl _)
   | (with_reducible exact LeO.none _)
   | (with_reducible refine LeO.ite ?_ ?_)
   | (with_reducible refine LeO.bind ?_ (fun _ => ?_))
   | exact ih0 _ _ _ _ _ _ _ _ _
   | exact ih1 _ _ _ _ _ _ _ _ _
   | exact ih2 _ _ _ _ _ _ _ _ _ _ _ _ _
   | exact cell_Get.mono _ _ _ _ _ _ _ _ _
   | exact groatlaw12_awake.mono _
   | exact LeO.none _
   | refine LeO.ite ?_ ?_
   | refine LeO.bind ?_ (fun _ => ?_)
  ·intro y0 y1 y2 y3 y4 y5 y6 y7 y8 y9 y10 y11 y12
   unfold groatlaw12_CellParts.j2
   repeat' first
   | (with_reducible exact ih0 _ _ _ _ _ _ _ _ _)
   | (with_reducible exact ih1 _ _ _ _ _ _ _ _ _)
   | (with_reducible exact ih2 _ _ _ _ _ _ _ _ _ _ _ _ _)
   | (with_reducible exact cell_Get.mono _ _ _ _ _ _ _ _ _)
   | (with_reducible exact groatlaw12_awake.mono _)
   | (with_reducible exact LeO.refl _)
   | (with_reducible exact LeO.none _)
   | (with_reducible refine LeO.ite ?_ ?_)
   | (with_reducible refine LeO.bind ?_ (fun _ => ?_))
   | exact ih0 _ _ _ _ _ _ _ _ _
   | exact ih1 _ _ _ _ _ _ _ _ _
   | exact ih2 _ _ _ _ _ _ _ _ _ _ _ _ _
   | exact cell_Get.mono _ _ _ _ _ _ _ _ _
   | exact groatlaw12_awake.mono _
   | exact LeO.none _
   | refine LeO.ite ?_ ?_
   | refine LeO.bind ?_ (fun _ => ?_)
theorem groatlaw12_CellParts.mono : ∀ a0 a1 a2 a3 a4 a5 a6 a7 k, LeO (groatlaw12_CellParts.f k a0 a1 a2 a3 a4 a5 a6 a7) (groatlaw12_CellParts.f (k + 1) a0 a1 a2 a3 a4 a5 a6 a7) := by
 intro a0 a1 a2 a3 a4 a5 a6 a7 k
 obtain ⟨ih0, ih1, ih2⟩ := groatlaw12_CellParts.mono_l k
 unfold groatlaw12_CellParts.f
 repeat' first
   | (with_reducible exact ih0 _ _ _ _ _ _ _ _ _)
   | (with_reducible exact ih1 _ _ _ _ _ _ _ _ _)
   | (with_reducible exact ih2 _ _ _ _ _ _ _ _ _ _ _ _ _)
   | (with_reducible exact cell_Get.mono _ _ _ _ _ _ _ _ _)
   | (with_reducible exact groatlaw12_awake.mono _)
   | (with_reducible exact LeO.refl _)
   | (with_reducible exact LeO.none _)
   | (with_reducible refine LeO.ite ?_ ?_)
   | (with_reducible refine LeO.bind ?_ (fun _ => ?_))
   | exact ih0 _ _ _ _ _ _ _ _ _
   | exact ih1 _ _ _ _ _ _ _ _ _
   | exact ih2 _ _ _ _ _ _ _ _ _ _ _ _ _
   | exact cell_Get.mono _ _ _ _ _ _ _ _ _
   | exact groatlaw12_awake.mono _
   | exact LeO.none _
   | refine LeO.ite ?_ ?_
   | refine LeO.bind ?_ (fun _ => ?_)
set_option maxHeartbeats 8000000 in
set_option maxRecDepth 100000 in
theorem groatlaw12_CellParts.calls (k : Nat) (a0_0 : Int) (a0_1 : Int) (a0_2 : Int) (a0_3 : Int) (a0_4 : Int) (a1 : ByteArray) (a2_0 : ByteArray) (a2_1 : ByteArray) (r : Bool) (w : World) (h : groatlaw12_CellParts.f k a0_0 a0_1 a0_2 a0_3 a0_4 a1 a2_0 a2_1 = some r) :
  Calls Try.prog 12 #[.agg #[.int .i64 a0_0, .int .i64 a0_1, .int .i64 a0_2, .int .i64 a0_3, .int .i64 a0_4], .string a1, .agg #[.string a2_0, .string a2_1]] w fun e w' => e = .returned (.bool r) ∧ Below w.heap.size w w' := by
 have hu23 := Try.underlying23
 have hu43 := Try.underlying43
 have HB := Aside0.mk (Below.refl w.heap.size w)
 have H : ((groatlaw12_awake.f k).bind fun t415 => (if t415 = true then (if (a1.size : Int) > 2500 then (groatlaw12_CellParts.j0 k a1 true a0_0 a0_1 a0_2 a0_3 a0_4 a2_0 a2_1) else (if (a2_0.size : Int) > 100 then (groatlaw12_CellParts.j0 k a1 true a0_0 a0_1 a0_2 a0_3 a0_4 a2_0 a2_1) else (groatlaw12_CellParts.j0 k a1 (decide ((a2_1.size : Int) > 100)) a0_0 a0_1 a0_2 a0_3 a0_4 a2_0 a2_1))) else (groatlaw12_CellParts.j0 k a1 true a0_0 a0_1 a0_2 a0_3 a0_4 a2_0 a2_1))) = some r := h
 clear h
 have HC4 := Aside0.mk H
 clear H
 go_enter Try.func12, Try.ntmps12
 go_upto_region 1 with (first | ((with_reducible refine gate_dst (N := 3) rfl ?_); refine box_event ?hg (N := 3) ?hd (cs := #[.int .i64 a0_0, .int .i64 a0_1, .int .i64 a0_2, .int .i64 a0_3, .int .i64 a0_4]) (t := 23) ?hr ?_; (case hd => rfl); (case hg => rfl); (case hr => first | (go_simp; done) | (go_simp; rfl) | (have hu8_ := IntKind.wrap_u8; go_simp; done) | (have hu8_ := IntKind.wrap_u8; go_simp; rfl) | (go_simp; simp [IntKind.wrap_u8]; done)); intro gb413 hg w5 hbox hb; have n0_ := Aside0.mk (below_step (by repeat (first | (with_reducible first | exact HB.out | apply below_alloc | apply pw_below_drewN | apply below_drew1) | exact HB.out)) hb); have n1_ := Aside0.mk (hbox); have n2_ := Aside0.mk ((by rw [hg]; exact (below_size (by repeat (first | (with_reducible first | exact HB.out | apply below_alloc | apply pw_below_drewN | apply below_drew1) | exact HB.out))) : w.heap.size ≤ gb413)); have n3_ := Aside0.mk ((by rw [hg]; exact (below_size (by repeat (first | (with_reducible first | exact HB.out | apply below_alloc | apply pw_below_drewN | apply below_drew1) | exact HB.out))) : w.heap.size ≤ gb413)); clear HB; have HB := n0_; have BK413 := n1_; have GW413 := n2_; have GE413 := n3_; clear n0_ n1_ n2_ n3_; clear hb hbox hg) | ((with_reducible refine gate_dst (N := 5) rfl ?_); refine box_event ?hg (N := 5) ?hd (cs := #[.string a2_0, .string a2_1]) (t := 43) ?hr ?_; (case hd => rfl); (case hg => rfl); (case hr => first | (go_simp; done) | (go_simp; rfl) | (have hu8_ := IntKind.wrap_u8; go_simp; done) | (have hu8_ := IntKind.wrap_u8; go_simp; rfl) | (go_simp; simp [IntKind.wrap_u8]; done)); intro gb414 hg w6 hbox hb; have n0_ := Aside0.mk (blk_below (g := gb413) (o := .cells #[.int .i64 a0_0, .int .i64 a0_1, .int .i64 a0_2, .int .i64 a0_3, .int .i64 a0_4] 23 (0, 0)) (by (with_reducible repeat (first | refine blk_drewN ?_ _ | refine blk_drew ?_ | refine blk_alloc ?_ _)); exact BK413.out) hb); have n1_ := Aside0.mk (below_step (by repeat (first | (with_reducible first | exact HB.out | apply below_alloc | apply pw_below_drewN | apply below_drew1 | refine below_set ?_ GE413.out) | exact HB.out)) hb); have n2_ := Aside0.mk (hbox); have n3_ := Aside0.mk ((by rw [hg]; exact (below_size (by repeat (first | (with_reducible first | exact HB.out | apply below_alloc | apply pw_below_drewN | apply below_drew1 | refine below_set ?_ GE413.out) | exact HB.out))) : w.heap.size ≤ gb414)); have n4_ := Aside0.mk ((by rw [hg]; exact (below_size (by repeat (first | (with_reducible first | exact HB.out | apply below_alloc | apply pw_below_drewN | apply below_drew1 | refine below_set ?_ GE413.out) | exact HB.out))) : w.heap.size ≤ gb414)); have n5_ := Aside0.mk ((by rw [hg]; exact Nat.ne_of_lt (blk_lt (g := gb413) (o := .cells #[.int .i64 a0_0, .int .i64 a0_1, .int .i64 a0_2, .int .i64 a0_3, .int .i64 a0_4] 23 (0, 0)) (by (with_reducible repeat (first | refine blk_drewN ?_ _ | refine blk_drew ?_ | refine blk_alloc ?_ _)); exact BK413.out)) : gb413 ≠ gb414)); have n6_ := Aside0.mk ((by rw [hg]; exact Nat.ne_of_gt (blk_lt (g := gb413) (o := .cells #[.int .i64 a0_0, .int .i64 a0_1, .int .i64 a0_2, .int .i64 a0_3, .int .i64 a0_4] 23 (0, 0)) (by (with_reducible repeat (first | refine blk_drewN ?_ _ | refine blk_drew ?_ | refine blk_alloc ?_ _)); exact BK413.out)) : gb414 ≠ gb413)); clear BK413; clear HB; have BK413 := n0_; have HB := n1_; have BK414 := n2_; have GW414 := n3_; have GE414 := n4_; have NB413_414 := n5_; have NB414_413 := n6_; clear n0_ n1_ n2_ n3_ n4_ n5_ n6_; clear hb hbox hg))
 (try simp only [Act.put, List.setIfInBounds_toArray, List.set_cons_zero, List.set_cons_succ])
 go_cut [32] (fun v32 wc => ∃ (kq : Nat) (x32_3 : Bool), v32 = .bool x32_3 ∧ Aside0 (groatlaw12_CellParts.j0 kq a1 x32_3 a0_0 a0_1 a0_2 a0_3 a0_4 a2_0 a2_1 = some r) ∧ Aside0 (kq ≤ k) ∧ Aside0 (wc.heap[gb413]? = some (.cells #[.int .i64 a0_0, .int .i64 a0_1, .int .i64 a0_2, .int .i64 a0_3, .int .i64 a0_4] 23 (0, 0))) ∧ Aside0 (wc.heap[gb414]? = some (.cells #[.string a2_0, .string a2_1] 43 (0, 0))) ∧ Aside0 (Below w.heap.size w wc))
 case first =>
  have H := HC4.out
  clear HC4
  replace H := Option.bind_eq_some_iff.mp H
  obtain ⟨t415, A70, H⟩ := H
  replace H : (if t415 = true then (if (a1.size : Int) > 2500 then (groatlaw12_CellParts.j0 k a1 true a0_0 a0_1 a0_2 a0_3 a0_4 a2_0 a2_1) else (if (a2_0.size : Int) > 100 then (groatlaw12_CellParts.j0 k a1 true a0_0 a0_1 a0_2 a0_3 a0_4 a2_0 a2_1) else (groatlaw12_CellParts.j0 k a1 (decide ((a2_1.size : Int) > 100)) a0_0 a0_1 a0_2 a0_3 a0_4 a2_0 a2_1))) else (groatlaw12_CellParts.j0 k a1 true a0_0 a0_1 a0_2 a0_3 a0_4 a2_0 a2_1)) = some r := H
  have A7 := Aside0.mk A70
  clear A70
  by_cases c8 : t415 = true
  ·subst c8
   have H1 : (if (a1.size : Int) > 2500 then (groatlaw12_CellParts.j0 k a1 true a0_0 a0_1 a0_2 a0_3 a0_4 a2_0 a2_1) else (if (a2_0.size : Int) > 100 then (groatlaw12_CellParts.j0 k a1 true a0_0 a0_1 a0_2 a0_3 a0_4 a2_0 a2_1) else (groatlaw12_CellParts.j0 k a1 (decide ((a2_1.size : Int) > 100)) a0_0 a0_1 a0_2 a0_3 a0_4 a2_0 a2_1))) = some r := by rw [if_pos rfl] at H; exact H
   clear H
   have H := H1
   clear H1
   by_cases c9 : (a1.size : Int) > 2500
   ·rw [if_pos c9] at H
    have c9b0 : decide (2500 < (a1.size : Int)) = true := decide_eq_true c9
    have c9b1 : decide (2500 < a1.size) = true := decide_eq_true (by omega)
    clear c9
    (first | rw [c9b0] | (simp only [i64_w, i32_w]; rw [c9b0]) | skip)
    have H' := Aside0.mk H
    clear H
    go_wp2_with (first | ((with_reducible refine gate_callee (f := 20) rfl ?_); refine goesL_ (some 14) rfl rfl Try.func20 (by kernel_rfl) rfl #[] rfl (by (try simp only [List.map_toArray, List.map_cons, List.map_nil]); first | done | rfl | (simp only [List.length_drop, List.length_take]; rfl)) ?_; (with_reducible refine (groatlaw12_awake.calls k  true _ A7.out).mono ?_); rintro e w10 ⟨rfl, hb⟩; refine ⟨_, rfl, ?_⟩; have n0_ := Aside0.mk (blk_below (g := gb413) (o := .cells #[.int .i64 a0_0, .int .i64 a0_1, .int .i64 a0_2, .int .i64 a0_3, .int .i64 a0_4] 23 (0, 0)) (by (with_reducible repeat (first | refine blk_drewN ?_ _ | refine blk_drew ?_ | refine blk_alloc ?_ _)); exact BK413.out) hb); have n1_ := Aside0.mk (blk_below (g := gb414) (o := .cells #[.string a2_0, .string a2_1] 43 (0, 0)) (by (with_reducible repeat (first | refine blk_drewN ?_ _ | refine blk_drew ?_ | refine blk_alloc ?_ _)); exact BK414.out) hb); have n2_ := Aside0.mk (below_step (by repeat (first | (with_reducible first | exact HB.out | apply below_alloc | apply pw_below_drewN | apply below_drew1 | refine below_set ?_ GE413.out | refine below_set ?_ GE414.out) | exact HB.out)) hb); clear BK413; clear BK414; clear HB; have BK413 := n0_; have BK414 := n1_; have HB := n2_; clear n0_ n1_ n2_; (try clear hb); (try clear hb2); (try clear hk); (try clear hi)))
    go_meet
    case rel => exact ⟨_, (true), (by first | rfl | (simp; done) | (simp [*]; done) | (simp [wrap64]; done)), H', ⟨by first | omega | exact Nat.le_refl _⟩, ⟨by (with_reducible repeat (first | refine blk_drewN ?_ _ | refine blk_drew ?_ | refine blk_alloc ?_ _)); exact BK413.out⟩, ⟨by (with_reducible repeat (first | refine blk_drewN ?_ _ | refine blk_drew ?_ | refine blk_alloc ?_ _)); exact BK414.out⟩, ⟨by repeat (first | (with_reducible first | exact HB.out | apply below_alloc | apply pw_below_drewN | apply below_drew1 | refine below_set ?_ GE413.out | refine below_set ?_ GE414.out) | exact HB.out)⟩⟩
   ·rw [if_neg c9] at H
    have c9b0 : decide (2500 < (a1.size : Int)) = false := decide_eq_false c9
    have c9b1 : decide (2500 < a1.size) = false := decide_eq_false (by omega)
    clear c9
    (first | rw [c9b0] | (simp only [i64_w, i32_w]; rw [c9b0]) | skip)
    by_cases c11 : (a2_0.size : Int) > 100
    ·rw [if_pos c11] at H
     have c11b0 : decide (100 < (a2_0.size : Int)) = true := decide_eq_true c11
     have c11b1 : decide (100 < a2_0.size) = true := decide_eq_true (by omega)
     clear c11
     have H' := Aside0.mk H
     clear H
     go_wp2_with (first | ((with_reducible refine gate_callee (f := 20) rfl ?_); refine goesL_ (some 14) rfl rfl Try.func20 (by kernel_rfl) rfl #[] rfl (by (try simp only [List.map_toArray, List.map_cons, List.map_nil]); first | done | rfl | (simp only [List.length_drop, List.length_take]; rfl)) ?_; (with_reducible refine (groatlaw12_awake.calls k  true _ A7.out).mono ?_); rintro e w12 ⟨rfl, hb⟩; refine ⟨_, rfl, ?_⟩; have n0_ := Aside0.mk (blk_below (g := gb413) (o := .cells #[.int .i64 a0_0, .int .i64 a0_1, .int .i64 a0_2, .int .i64 a0_3, .int .i64 a0_4] 23 (0, 0)) (by (with_reducible repeat (first | refine blk_drewN ?_ _ | refine blk_drew ?_ | refine blk_alloc ?_ _)); exact BK413.out) hb); have n1_ := Aside0.mk (blk_below (g := gb414) (o := .cells #[.string a2_0, .string a2_1] 43 (0, 0)) (by (with_reducible repeat (first | refine blk_drewN ?_ _ | refine blk_drew ?_ | refine blk_alloc ?_ _)); exact BK414.out) hb); have n2_ := Aside0.mk (below_step (by repeat (first | (with_reducible first | exact HB.out | apply below_alloc | apply pw_below_drewN | apply below_drew1 | refine below_set ?_ GE413.out | refine below_set ?_ GE414.out) | exact HB.out)) hb); clear BK413; clear BK414; clear HB; have BK413 := n0_; have BK414 := n1_; have HB := n2_; clear n0_ n1_ n2_; (try clear hb); (try clear hb2); (try clear hk); (try clear hi); have hnb13 := NB414_413.out; have hnc13 := NB413_414.out; have hcz14_0 : w12.cell? ⟨gb414, 0, none⟩ = some (.string a2_0) := (blk_cell BK414.out 0).trans rfl; have hcz14_1 : w12.cell? ⟨gb414, 1, none⟩ = some (.string a2_1) := (blk_cell BK414.out 1).trans rfl; have hfz14_0 := blk_frozen BK414.out 0; have hfz14_1 := blk_frozen BK414.out 1))
     go_meet
     case rel => exact ⟨_, (true), (by first | rfl | (simp; done) | (simp [*]; done) | (simp [wrap64]; done)), H', ⟨by first | omega | exact Nat.le_refl _⟩, ⟨by (with_reducible repeat (first | refine blk_drewN ?_ _ | refine blk_drew ?_ | refine blk_alloc ?_ _)); exact BK413.out⟩, ⟨by (with_reducible repeat (first | refine blk_drewN ?_ _ | refine blk_drew ?_ | refine blk_alloc ?_ _)); exact BK414.out⟩, ⟨by repeat (first | (with_reducible first | exact HB.out | apply below_alloc | apply pw_below_drewN | apply below_drew1 | refine below_set ?_ GE413.out | refine below_set ?_ GE414.out) | exact HB.out)⟩⟩
    ·rw [if_neg c11] at H
     have c11b0 : decide (100 < (a2_0.size : Int)) = false := decide_eq_false c11
     have c11b1 : decide (100 < a2_0.size) = false := decide_eq_false (by omega)
     clear c11
     have H' := Aside0.mk H
     clear H
     go_wp2_with (first | ((with_reducible refine gate_callee (f := 20) rfl ?_); refine goesL_ (some 14) rfl rfl Try.func20 (by kernel_rfl) rfl #[] rfl (by (try simp only [List.map_toArray, List.map_cons, List.map_nil]); first | done | rfl | (simp only [List.length_drop, List.length_take]; rfl)) ?_; (with_reducible refine (groatlaw12_awake.calls k  true _ A7.out).mono ?_); rintro e w15 ⟨rfl, hb⟩; refine ⟨_, rfl, ?_⟩; have n0_ := Aside0.mk (blk_below (g := gb413) (o := .cells #[.int .i64 a0_0, .int .i64 a0_1, .int .i64 a0_2, .int .i64 a0_3, .int .i64 a0_4] 23 (0, 0)) (by (with_reducible repeat (first | refine blk_drewN ?_ _ | refine blk_drew ?_ | refine blk_alloc ?_ _)); exact BK413.out) hb); have n1_ := Aside0.mk (blk_below (g := gb414) (o := .cells #[.string a2_0, .string a2_1] 43 (0, 0)) (by (with_reducible repeat (first | refine blk_drewN ?_ _ | refine blk_drew ?_ | refine blk_alloc ?_ _)); exact BK414.out) hb); have n2_ := Aside0.mk (below_step (by repeat (first | (with_reducible first | exact HB.out | apply below_alloc | apply pw_below_drewN | apply below_drew1 | refine below_set ?_ GE413.out | refine below_set ?_ GE414.out) | exact HB.out)) hb); clear BK413; clear BK414; clear HB; have BK413 := n0_; have BK414 := n1_; have HB := n2_; clear n0_ n1_ n2_; (try clear hb); (try clear hb2); (try clear hk); (try clear hi); have hnb16 := NB414_413.out; have hnc16 := NB413_414.out; have hcz17_0 : w15.cell? ⟨gb414, 0, none⟩ = some (.string a2_0) := (blk_cell BK414.out 0).trans rfl; have hcz17_1 : w15.cell? ⟨gb414, 1, none⟩ = some (.string a2_1) := (blk_cell BK414.out 1).trans rfl; have hfz17_0 := blk_frozen BK414.out 0; have hfz17_1 := blk_frozen BK414.out 1))
     go_meet
     case rel => exact ⟨_, (decide ((a2_1.size : Int) > 100)), (by first | rfl | (simp; done) | (simp [*]; done) | (simp [wrap64]; done)), H', ⟨by first | omega | exact Nat.le_refl _⟩, ⟨by (with_reducible repeat (first | refine blk_drewN ?_ _ | refine blk_drew ?_ | refine blk_alloc ?_ _)); exact BK413.out⟩, ⟨by (with_reducible repeat (first | refine blk_drewN ?_ _ | refine blk_drew ?_ | refine blk_alloc ?_ _)); exact BK414.out⟩, ⟨by repeat (first | (with_reducible first | exact HB.out | apply below_alloc | apply pw_below_drewN | apply below_drew1 | refine below_set ?_ GE413.out | refine below_set ?_ GE414.out) | exact HB.out)⟩⟩
  ·replace c8 := Bool.eq_false_iff.mpr c8
   subst c8
   have H1 : (groatlaw12_CellParts.j0 k a1 true a0_0 a0_1 a0_2 a0_3 a0_4 a2_0 a2_1) = some r := by rw [if_neg (show ¬ (false = true) by decide)] at H; exact H
   clear H
   have H := H1
   clear H1
   have H' := Aside0.mk H
   clear H
   go_wp2_with (first | ((with_reducible refine gate_callee (f := 20) rfl ?_); refine goesL_ (some 14) rfl rfl Try.func20 (by kernel_rfl) rfl #[] rfl (by (try simp only [List.map_toArray, List.map_cons, List.map_nil]); first | done | rfl | (simp only [List.length_drop, List.length_take]; rfl)) ?_; (with_reducible refine (groatlaw12_awake.calls k  false _ A7.out).mono ?_); rintro e w18 ⟨rfl, hb⟩; refine ⟨_, rfl, ?_⟩; have n0_ := Aside0.mk (blk_below (g := gb413) (o := .cells #[.int .i64 a0_0, .int .i64 a0_1, .int .i64 a0_2, .int .i64 a0_3, .int .i64 a0_4] 23 (0, 0)) (by (with_reducible repeat (first | refine blk_drewN ?_ _ | refine blk_drew ?_ | refine blk_alloc ?_ _)); exact BK413.out) hb); have n1_ := Aside0.mk (blk_below (g := gb414) (o := .cells #[.string a2_0, .string a2_1] 43 (0, 0)) (by (with_reducible repeat (first | refine blk_drewN ?_ _ | refine blk_drew ?_ | refine blk_alloc ?_ _)); exact BK414.out) hb); have n2_ := Aside0.mk (below_step (by repeat (first | (with_reducible first | exact HB.out | apply below_alloc | apply pw_below_drewN | apply below_drew1 | refine below_set ?_ GE413.out | refine below_set ?_ GE414.out) | exact HB.out)) hb); clear BK413; clear BK414; clear HB; have BK413 := n0_; have BK414 := n1_; have HB := n2_; clear n0_ n1_ n2_; (try clear hb); (try clear hb2); (try clear hk); (try clear hi)))
   go_meet
   case rel => exact ⟨_, (true), (by first | rfl | (simp; done) | (simp [*]; done) | (simp [wrap64]; done)), H', ⟨by first | omega | exact Nat.le_refl _⟩, ⟨by (with_reducible repeat (first | refine blk_drewN ?_ _ | refine blk_drew ?_ | refine blk_alloc ?_ _)); exact BK413.out⟩, ⟨by (with_reducible repeat (first | refine blk_drewN ?_ _ | refine blk_drew ?_ | refine blk_alloc ?_ _)); exact BK414.out⟩, ⟨by repeat (first | (with_reducible first | exact HB.out | apply below_alloc | apply pw_below_drewN | apply below_drew1 | refine below_set ?_ GE413.out | refine below_set ?_ GE414.out) | exact HB.out)⟩⟩
 case rest =>
  clear HC4
  try clear c1
  try clear c2
  try clear p2
  try clear p6
  try clear c8
  try clear c9
  try clear c9b0
  try clear c9b1
  try clear c11
  try clear c11b0
  try clear c11b1
  try clear c12
  try clear c13
  try clear c16
  try clear hcz14_0
  try clear hcz14_1
  try clear hcz17_0
  try clear hcz17_1
  try clear hfz14_0
  try clear hfz14_1
  try clear hfz17_0
  try clear hfz17_1
  obtain ⟨kq, x32_3, rfl, HA, HJ3, BK413, BK414, HB⟩ := hcut
  cases kq with
  | zero => exact absurd HA.out (by simp [groatlaw12_CellParts.j0])
  | succ kj3 =>
   have H := HA.out
   clear HA
   simp only [groatlaw12_CellParts.j0] at H
   by_cases c19 : x32_3 = true
   ·subst c19
    have H1 : ((groatlaw12_awake.f kj3).bind fun t416 => (some t416)) = some r := by rw [if_pos rfl] at H; exact H
    clear H
    have H := H1
    clear H1
    replace H := Option.bind_eq_some_iff.mp H
    obtain ⟨t416, A200, H⟩ := H
    replace H : (some t416) = some r := H
    have A20 := Aside0.mk A200
    clear A200
    obtain rfl := Option.some.inj H
    go_wp2_with (first | ((with_reducible refine gate_callee (f := 20) rfl ?_); refine goesL_ (some 33) rfl rfl Try.func20 (by kernel_rfl) rfl #[] rfl (by (try simp only [List.map_toArray, List.map_cons, List.map_nil]); first | done | rfl | (simp only [List.length_drop, List.length_take]; rfl)) ?_; (with_reducible refine (groatlaw12_awake.calls kj3  t416 _ A20.out).mono ?_); rintro e w21 ⟨rfl, hb⟩; refine ⟨_, rfl, ?_⟩; have n0_ := Aside0.mk (blk_below (g := gb413) (o := .cells #[.int .i64 a0_0, .int .i64 a0_1, .int .i64 a0_2, .int .i64 a0_3, .int .i64 a0_4] 23 (0, 0)) (by (with_reducible repeat (first | refine blk_drewN ?_ _ | refine blk_drew ?_ | refine blk_alloc ?_ _)); exact BK413.out) hb); have n1_ := Aside0.mk (blk_below (g := gb414) (o := .cells #[.string a2_0, .string a2_1] 43 (0, 0)) (by (with_reducible repeat (first | refine blk_drewN ?_ _ | refine blk_drew ?_ | refine blk_alloc ?_ _)); exact BK414.out) hb); have n2_ := Aside0.mk (below_step (by repeat (first | (with_reducible first | exact HB.out | apply below_alloc | apply pw_below_drewN | apply below_drew1 | refine below_set ?_ GE413.out | refine below_set ?_ GE414.out) | exact HB.out)) hb); clear BK413; clear BK414; clear HB; have BK413 := n0_; have BK414 := n1_; have HB := n2_; clear n0_ n1_ n2_; (try clear hb); (try clear hb2); (try clear hk); (try clear hi)))
    go_ret
    exact ⟨by first | rfl | (simp [errW_none, errW_some] <;> rfl) | (simp [*, errW_none, errW_some] <;> rfl), by repeat (first | (with_reducible first | exact HB.out | apply below_alloc | apply pw_below_drewN | apply below_drew1 | refine below_set ?_ GE413.out | refine below_set ?_ GE414.out) | exact HB.out)⟩
   ·replace c19 := Bool.eq_false_iff.mpr c19
    subst c19
    have H1 : (groatlaw12_CellParts.l0 kj3 a1 1 a0_0 a0_1 a0_2 a0_3 a0_4 a2_0 a2_1) = some r := by rw [if_neg (show ¬ (false = true) by decide)] at H; exact H
    clear H
    have H := H1
    clear H1
    have H' := Aside0.mk H
    clear H
    go_wp2
    go_loopg [7] kj3 (fun kq v7 w' => ∃ (x7_2 : Int), v7 = .int .i64 x7_2 ∧ Aside0 (groatlaw12_CellParts.l0 kq a1 x7_2 a0_0 a0_1 a0_2 a0_3 a0_4 a2_0 a2_1 = some r) ∧ Aside0 (kq ≤ kj3) ∧ Aside0 (w'.heap[gb413]? = some (.cells #[.int .i64 a0_0, .int .i64 a0_1, .int .i64 a0_2, .int .i64 a0_3, .int .i64 a0_4] 23 (0, 0))) ∧ Aside0 (w'.heap[gb414]? = some (.cells #[.string a2_0, .string a2_1] 43 (0, 0))) ∧ Aside0 (Below w.heap.size w w'))
    case atStart => exact ⟨(1), (by first | rfl | (simp; done) | (simp [*]; done) | (simp [wrap64]; done)), H', ⟨Nat.le_refl _⟩, ⟨by (with_reducible repeat (first | refine blk_drewN ?_ _ | refine blk_drew ?_ | refine blk_alloc ?_ _)); exact BK413.out⟩, ⟨by (with_reducible repeat (first | refine blk_drewN ?_ _ | refine blk_drew ?_ | refine blk_alloc ?_ _)); exact BK414.out⟩, ⟨by repeat (first | (with_reducible first | exact HB.out | apply below_alloc | apply pw_below_drewN | apply below_drew1 | refine below_set ?_ GE413.out | refine below_set ?_ GE414.out) | exact HB.out)⟩⟩
    case round =>
     clear H'
     try clear c1
     try clear c2
     try clear p2
     try clear p6
     try clear c8
     try clear c9
     try clear c9b0
     try clear c9b1
     try clear c11
     try clear c11b0
     try clear c11b1
     try clear c12
     try clear c13
     try clear c16
     try clear c19
     try clear c20
     try clear hcz14_0
     try clear hcz14_1
     try clear hcz17_0
     try clear hcz17_1
     try clear hfz14_0
     try clear hfz14_1
     try clear hfz17_0
     try clear hfz17_1
     try clear p2
     try clear p6
     obtain ⟨x7_2, rfl, HA, HK2, BK413, BK414, HB⟩ := hrel
     cases gk with
     | zero => exact absurd HA.out (by simp [groatlaw12_CellParts.l0])
     | succ k2 =>
      have H := HA.out
      clear HA
      simp only [groatlaw12_CellParts.l0] at H
      by_cases c22 : x7_2 ≤ 2
      ·rw [if_pos c22] at H
       have c22b0 : decide (x7_2 ≤ 2) = true := decide_eq_true c22
       clear c22
       replace H := Option.bind_eq_some_iff.mp H
       obtain ⟨⟨t417, t418, t419⟩, A230, H⟩ := H
       replace H : (if a2_0.size + a1.size ≤ 9223372036854775807 then ((cell_Get.f k2 x7_2 a0_0 a0_1 a0_2 a0_3 a0_4 (a2_0 ++ a1) (a2_0.size : Int)).bind fun bt420 => (if t417.toList = bt420.1.toList then (if t419 = bt420.2.2 then (if t419 = 0 then (groatlaw12_CellParts.j2 k2 a1 x7_2 t417 t418 t419 (bt420.2.1 != (wrap64 (t418 + (a2_0.size : Int)))) a0_0 a0_1 a0_2 a0_3 a0_4 a2_0 a2_1) else (groatlaw12_CellParts.j2 k2 a1 x7_2 t417 t418 t419 false a0_0 a0_1 a0_2 a0_3 a0_4 a2_0 a2_1)) else (groatlaw12_CellParts.j2 k2 a1 x7_2 t417 t418 t419 true a0_0 a0_1 a0_2 a0_3 a0_4 a2_0 a2_1)) else (groatlaw12_CellParts.j2 k2 a1 x7_2 t417 t418 t419 true a0_0 a0_1 a0_2 a0_3 a0_4 a2_0 a2_1))) else (none)) = some r := H
       have A23 := Aside0.mk A230
       clear A230
       by_cases c24 : a2_0.size + a1.size ≤ 9223372036854775807
       ·rw [if_pos c24] at H
        have c24b0 := eq_true c24
        have c24b1 : decide (a2_0.size + a1.size ≤ 9223372036854775807) = true := decide_eq_true c24
        try have c24b2 : (9223372036854775807 < a2_0.size + a1.size) = False := eq_false (Nat.not_lt.2 c24)
        try (have c24b3 := c24b2; simp only [ByteArray.size_extract, ByteArray.size_append, Nat.min_self, Nat.sub_zero] at c24b3)
        replace H := Option.bind_eq_some_iff.mp H
        obtain ⟨⟨t420, t421, t422⟩, A250, H⟩ := H
        replace H : (if t417.toList = t420.toList then (if t419 = t422 then (if t419 = 0 then (groatlaw12_CellParts.j2 k2 a1 x7_2 t417 t418 t419 (t421 != (wrap64 (t418 + (a2_0.size : Int)))) a0_0 a0_1 a0_2 a0_3 a0_4 a2_0 a2_1) else (groatlaw12_CellParts.j2 k2 a1 x7_2 t417 t418 t419 false a0_0 a0_1 a0_2 a0_3 a0_4 a2_0 a2_1)) else (groatlaw12_CellParts.j2 k2 a1 x7_2 t417 t418 t419 true a0_0 a0_1 a0_2 a0_3 a0_4 a2_0 a2_1)) else (groatlaw12_CellParts.j2 k2 a1 x7_2 t417 t418 t419 true a0_0 a0_1 a0_2 a0_3 a0_4 a2_0 a2_1)) = some r := H
        have A25 := Aside0.mk A250
        clear A250
        have HC26 := Aside0.mk H
        clear H
        have hnb27 := NB413_414.out
        have hnc27 := NB414_413.out
        have hcz28_0 : wr.cell? ⟨gb413, 0, none⟩ = some (.int .i64 a0_0) := (blk_cell BK413.out 0).trans rfl
        have hcz28_1 : wr.cell? ⟨gb413, 1, none⟩ = some (.int .i64 a0_1) := (blk_cell BK413.out 1).trans rfl
        have hcz28_2 : wr.cell? ⟨gb413, 2, none⟩ = some (.int .i64 a0_2) := (blk_cell BK413.out 2).trans rfl
        have hcz28_3 : wr.cell? ⟨gb413, 3, none⟩ = some (.int .i64 a0_3) := (blk_cell BK413.out 3).trans rfl
        have hcz28_4 : wr.cell? ⟨gb413, 4, none⟩ = some (.int .i64 a0_4) := (blk_cell BK413.out 4).trans rfl
        have hfz28_0 := blk_frozen BK413.out 0
        have hfz28_1 := blk_frozen BK413.out 1
        have hfz28_2 := blk_frozen BK413.out 2
        have hfz28_3 := blk_frozen BK413.out 3
        have hfz28_4 := blk_frozen BK413.out 4
        go_upto_region 8 with (first | ((with_reducible refine gate_callee (f := 23) rfl ?_); refine goesL_ (some 42) rfl rfl Try.func23 (by kernel_rfl) rfl #[.int .i64 x7_2, .agg #[.int .i64 a0_0, .int .i64 a0_1, .int .i64 a0_2, .int .i64 a0_3, .int .i64 a0_4], .string a1, .int .i64 0] rfl (by (try simp only [List.map_toArray, List.map_cons, List.map_nil]); first | done | rfl | (simp only [List.length_drop, List.length_take]; rfl)) ?_; (with_reducible refine (cell_Get.calls k2 x7_2 a0_0 a0_1 a0_2 a0_3 a0_4 a1 0 t417 t418 t419 _ A23.out).mono ?_); rintro e w29 ⟨rfl, hb⟩; refine ⟨_, rfl, ?_⟩; have n0_ := Aside0.mk (blk_below (g := gb413) (o := .cells #[.int .i64 a0_0, .int .i64 a0_1, .int .i64 a0_2, .int .i64 a0_3, .int .i64 a0_4] 23 (0, 0)) (by (with_reducible repeat (first | refine blk_drewN ?_ _ | refine blk_drew ?_ | refine blk_alloc ?_ _)); exact BK413.out) hb); have n1_ := Aside0.mk (blk_below (g := gb414) (o := .cells #[.string a2_0, .string a2_1] 43 (0, 0)) (by (with_reducible repeat (first | refine blk_drewN ?_ _ | refine blk_drew ?_ | refine blk_alloc ?_ _)); exact BK414.out) hb); have n2_ := Aside0.mk (below_step (by repeat (first | (with_reducible first | exact HB.out | apply below_alloc | apply pw_below_drewN | apply below_drew1 | refine below_set ?_ GE413.out | refine below_set ?_ GE414.out) | exact HB.out)) hb); clear BK413; clear BK414; clear HB; have BK413 := n0_; have BK414 := n1_; have HB := n2_; clear n0_ n1_ n2_; (try clear hb); (try clear hb2); (try clear hk); (try clear hi); have hcz30_0 : w29.cell? ⟨gb413, 0, none⟩ = some (.int .i64 a0_0) := (blk_cell BK413.out 0).trans rfl; have hcz30_1 : w29.cell? ⟨gb413, 1, none⟩ = some (.int .i64 a0_1) := (blk_cell BK413.out 1).trans rfl; have hcz30_2 : w29.cell? ⟨gb413, 2, none⟩ = some (.int .i64 a0_2) := (blk_cell BK413.out 2).trans rfl; have hcz30_3 : w29.cell? ⟨gb413, 3, none⟩ = some (.int .i64 a0_3) := (blk_cell BK413.out 3).trans rfl; have hcz30_4 : w29.cell? ⟨gb413, 4, none⟩ = some (.int .i64 a0_4) := (blk_cell BK413.out 4).trans rfl; have hfz30_0 := blk_frozen BK413.out 0; have hfz30_1 := blk_frozen BK413.out 1; have hfz30_2 := blk_frozen BK413.out 2; have hfz30_3 := blk_frozen BK413.out 3; have hfz30_4 := blk_frozen BK413.out 4; have hcz31_0 : w29.cell? ⟨gb414, 0, none⟩ = some (.string a2_0) := (blk_cell BK414.out 0).trans rfl; have hcz31_1 : w29.cell? ⟨gb414, 1, none⟩ = some (.string a2_1) := (blk_cell BK414.out 1).trans rfl; have hfz31_0 := blk_frozen BK414.out 0; have hfz31_1 := blk_frozen BK414.out 1) | ((with_reducible refine gate_callee (f := 23) rfl ?_); refine goesL_ (some 56) rfl rfl Try.func23 (by kernel_rfl) rfl #[.int .i64 x7_2, .agg #[.int .i64 a0_0, .int .i64 a0_1, .int .i64 a0_2, .int .i64 a0_3, .int .i64 a0_4], .string (a2_0 ++ a1), .int .i64 (a2_0.size : Int)] rfl (by (try simp only [List.map_toArray, List.map_cons, List.map_nil]); first | done | rfl | (simp only [List.length_drop, List.length_take]; rfl)) ?_; (with_reducible refine (cell_Get.calls k2 x7_2 a0_0 a0_1 a0_2 a0_3 a0_4 (a2_0 ++ a1) (a2_0.size : Int) t420 t421 t422 _ A25.out).mono ?_); rintro e w32 ⟨rfl, hb⟩; refine ⟨_, rfl, ?_⟩; have n0_ := Aside0.mk (blk_below (g := gb413) (o := .cells #[.int .i64 a0_0, .int .i64 a0_1, .int .i64 a0_2, .int .i64 a0_3, .int .i64 a0_4] 23 (0, 0)) (by (with_reducible repeat (first | refine blk_drewN ?_ _ | refine blk_drew ?_ | refine blk_alloc ?_ _)); exact BK413.out) hb); have n1_ := Aside0.mk (blk_below (g := gb414) (o := .cells #[.string a2_0, .string a2_1] 43 (0, 0)) (by (with_reducible repeat (first | refine blk_drewN ?_ _ | refine blk_drew ?_ | refine blk_alloc ?_ _)); exact BK414.out) hb); have n2_ := Aside0.mk (below_step (by repeat (first | (with_reducible first | exact HB.out | apply below_alloc | apply pw_below_drewN | apply below_drew1 | refine below_set ?_ GE413.out | refine below_set ?_ GE414.out) | exact HB.out)) hb); clear BK413; clear BK414; clear HB; have BK413 := n0_; have BK414 := n1_; have HB := n2_; clear n0_ n1_ n2_; (try clear hb); (try clear hb2); (try clear hk); (try clear hi)))
        (try simp only [Act.put, List.setIfInBounds_toArray, List.set_cons_zero, List.set_cons_succ])
        go_cut [80] (fun v80 wc => ∃ (kq : Nat) (x80_25 : Bool), v80 = .bool x80_25 ∧ Aside0 (groatlaw12_CellParts.j2 kq a1 x7_2 t417 t418 t419 x80_25 a0_0 a0_1 a0_2 a0_3 a0_4 a2_0 a2_1 = some r) ∧ Aside0 (kq ≤ k2) ∧ Aside0 (wc.heap[gb413]? = some (.cells #[.int .i64 a0_0, .int .i64 a0_1, .int .i64 a0_2, .int .i64 a0_3, .int .i64 a0_4] 23 (0, 0))) ∧ Aside0 (wc.heap[gb414]? = some (.cells #[.string a2_0, .string a2_1] 43 (0, 0))) ∧ Aside0 (Below w.heap.size w wc))
        case first =>
         have H := HC26.out
         clear HC26
         by_cases c33 : t417.toList = t420.toList
         ·rw [if_pos c33] at H
          have c33b0 : (t417.toList == t420.toList) = true := beq_iff_eq.mpr c33
          have c33b1 : (t417.toList != t420.toList) = false := bne_eq_false_iff_eq.mpr c33
          clear c33
          (first | rw [c33b0] | (simp only [i64_w, i32_w]; rw [c33b0]) | skip)
          by_cases c34 : t419 = t422
          ·rw [if_pos c34] at H
           have c34b0 : (t419 == t422) = true := beq_iff_eq.mpr c34
           have c34b1 : (t419 != t422) = false := bne_eq_false_iff_eq.mpr c34
           clear c34
           by_cases c35 : t419 = 0
           ·rw [if_pos c35] at H
            have c35b0 : (t419 == 0) = true := beq_iff_eq.mpr c35
            have c35b1 : (t419 != 0) = false := bne_eq_false_iff_eq.mpr c35
            clear c35
            have H' := Aside0.mk H
            clear H
            have hnb36 := NB414_413.out
            have hnc36 := NB413_414.out
            have hcz37_0 : w32.cell? ⟨gb414, 0, none⟩ = some (.string a2_0) := (blk_cell BK414.out 0).trans rfl
            have hcz37_1 : w32.cell? ⟨gb414, 1, none⟩ = some (.string a2_1) := (blk_cell BK414.out 1).trans rfl
            have hfz37_0 := blk_frozen BK414.out 0
            have hfz37_1 := blk_frozen BK414.out 1
            go_wp2
            go_meet
            case rel => exact ⟨_, ((t421 != (wrap64 (t418 + (a2_0.size : Int))))), (by first | rfl | (simp; done) | (simp [*]; done) | (simp [wrap64]; done)), H', ⟨by have := HJ3.out; have := HK2.out; first | omega | exact Nat.le_refl _⟩, ⟨by (with_reducible repeat (first | refine blk_drewN ?_ _ | refine blk_drew ?_ | refine blk_alloc ?_ _)); exact BK413.out⟩, ⟨by (with_reducible repeat (first | refine blk_drewN ?_ _ | refine blk_drew ?_ | refine blk_alloc ?_ _)); exact BK414.out⟩, ⟨by repeat (first | (with_reducible first | exact HB.out | apply below_alloc | apply pw_below_drewN | apply below_drew1 | refine below_set ?_ GE413.out | refine below_set ?_ GE414.out) | exact HB.out)⟩⟩
           ·rw [if_neg c35] at H
            have c35b0 : (t419 == 0) = false := beq_eq_false_iff_ne.mpr c35
            have c35b1 : (t419 != 0) = true := bne_iff_ne.mpr c35
            have H' := Aside0.mk H
            clear H
            go_wp2
            go_meet
            case rel => exact ⟨_, (false), (by first | rfl | (simp; done) | (simp [*]; done) | (simp [wrap64]; done)), H', ⟨by have := HJ3.out; have := HK2.out; first | omega | exact Nat.le_refl _⟩, ⟨by (with_reducible repeat (first | refine blk_drewN ?_ _ | refine blk_drew ?_ | refine blk_alloc ?_ _)); exact BK413.out⟩, ⟨by (with_reducible repeat (first | refine blk_drewN ?_ _ | refine blk_drew ?_ | refine blk_alloc ?_ _)); exact BK414.out⟩, ⟨by repeat (first | (with_reducible first | exact HB.out | apply below_alloc | apply pw_below_drewN | apply below_drew1 | refine below_set ?_ GE413.out | refine below_set ?_ GE414.out) | exact HB.out)⟩⟩
          ·rw [if_neg c34] at H
           have c34b0 : (t419 == t422) = false := beq_eq_false_iff_ne.mpr c34
           have c34b1 : (t419 != t422) = true := bne_iff_ne.mpr c34
           have H' := Aside0.mk H
           clear H
           go_wp2
           go_meet
           case rel => exact ⟨_, (true), (by first | rfl | (simp; done) | (simp [*]; done) | (simp [wrap64]; done)), H', ⟨by have := HJ3.out; have := HK2.out; first | omega | exact Nat.le_refl _⟩, ⟨by (with_reducible repeat (first | refine blk_drewN ?_ _ | refine blk_drew ?_ | refine blk_alloc ?_ _)); exact BK413.out⟩, ⟨by (with_reducible repeat (first | refine blk_drewN ?_ _ | refine blk_drew ?_ | refine blk_alloc ?_ _)); exact BK414.out⟩, ⟨by repeat (first | (with_reducible first | exact HB.out | apply below_alloc | apply pw_below_drewN | apply below_drew1 | refine below_set ?_ GE413.out | refine below_set ?_ GE414.out) | exact HB.out)⟩⟩
         ·rw [if_neg c33] at H
          have c33b0 : (t417.toList == t420.toList) = false := beq_eq_false_iff_ne.mpr c33
          have c33b1 : (t417.toList != t420.toList) = true := bne_iff_ne.mpr c33
          (first | rw [c33b0] | (simp only [i64_w, i32_w]; rw [c33b0]) | skip)
          have H' := Aside0.mk H
          clear H
          go_wp2
          go_meet
          case rel => exact ⟨_, (true), (by first | rfl | (simp; done) | (simp [*]; done) | (simp [wrap64]; done)), H', ⟨by have := HJ3.out; have := HK2.out; first | omega | exact Nat.le_refl _⟩, ⟨by (with_reducible repeat (first | refine blk_drewN ?_ _ | refine blk_drew ?_ | refine blk_alloc ?_ _)); exact BK413.out⟩, ⟨by (with_reducible repeat (first | refine blk_drewN ?_ _ | refine blk_drew ?_ | refine blk_alloc ?_ _)); exact BK414.out⟩, ⟨by repeat (first | (with_reducible first | exact HB.out | apply below_alloc | apply pw_below_drewN | apply below_drew1 | refine below_set ?_ GE413.out | refine below_set ?_ GE414.out) | exact HB.out)⟩⟩
        case rest =>
         clear HC26
         try clear c1
         try clear c2
         try clear p2
         try clear c3
         try clear p6
         try clear c8
         try clear c9
         try clear c9b0
         try clear c9b1
         try clear c11
         try clear c11b0
         try clear c11b1
         try clear c12
         try clear c13
         try clear c16
         try clear c19
         try clear c20
         try clear c22
         try clear c22b0
         try clear c23
         try clear c24
         try clear c24b0
         try clear c24b1
         try clear c24b2
         try clear c27
         try clear c33
         try clear c33b0
         try clear c33b1
         try clear c34
         try clear c34b0
         try clear c34b1
         try clear c35
         try clear c35b0
         try clear c35b1
         try clear c36
         try clear hcz14_0
         try clear hcz14_1
         try clear hcz17_0
         try clear hcz17_1
         try clear hcz28_0
         try clear hcz28_1
         try clear hcz28_2
         try clear hcz28_3
         try clear hcz28_4
         try clear hcz30_0
         try clear hcz30_1
         try clear hcz30_2
         try clear hcz30_3
         try clear hcz30_4
         try clear hcz31_0
         try clear hcz31_1
         try clear hcz37_0
         try clear hcz37_1
         try clear hfz14_0
         try clear hfz14_1
         try clear hfz17_0
         try clear hfz17_1
         try clear hfz28_0
         try clear hfz28_1
         try clear hfz28_2
         try clear hfz28_3
         try clear hfz28_4
         try clear hfz30_0
         try clear hfz30_1
         try clear hfz30_2
         try clear hfz30_3
         try clear hfz30_4
         try clear hfz31_0
         try clear hfz31_1
         try clear hfz37_0
         try clear hfz37_1
         try clear p2
         try clear p6
         obtain ⟨kq, x80_25, rfl, HA, HJ25, BK413, BK414, HB⟩ := hcut
         cases kq with
         | zero => exact absurd HA.out (by simp [groatlaw12_CellParts.j2])
         | succ kj25 =>
          have H := HA.out
          clear HA
          simp only [groatlaw12_CellParts.j2] at H
          by_cases c38 : x80_25 = true
          ·subst c38
           have H1 : (some false) = some r := by rw [if_pos rfl] at H; exact H
           clear H
           have H := H1
           clear H1
           obtain rfl := Option.some.inj H
           go_wp2
           go_ret
           exact ⟨by first | rfl | (simp [errW_none, errW_some] <;> rfl) | (simp [*, errW_none, errW_some] <;> rfl), by repeat (first | (with_reducible first | exact HB.out | apply below_alloc | apply pw_below_drewN | apply below_drew1 | refine below_set ?_ GE413.out | refine below_set ?_ GE414.out) | exact HB.out)⟩
          ·replace c38 := Bool.eq_false_iff.mpr c38
           subst c38
           have H1 : (if t419 = 0 then (if a1.size + a2_1.size ≤ 9223372036854775807 then ((cell_Get.f kj25 x7_2 a0_0 a0_1 a0_2 a0_3 a0_4 (a1 ++ a2_1) 0).bind fun bt423 => (if t417.toList = bt423.1.toList then (if bt423.2.2 = 0 then (if bt423.2.1 = t418 then (groatlaw12_CellParts.l0 kj25 a1 (wrap64 (x7_2 + 1)) a0_0 a0_1 a0_2 a0_3 a0_4 a2_0 a2_1) else (some false)) else (some false)) else (some false))) else (none)) else (groatlaw12_CellParts.l0 kj25 a1 (wrap64 (x7_2 + 1)) a0_0 a0_1 a0_2 a0_3 a0_4 a2_0 a2_1)) = some r := by rw [if_neg (show ¬ (false = true) by decide)] at H; exact H
           clear H
           have H := H1
           clear H1
           by_cases c39 : t419 = 0
           ·rw [if_pos c39] at H
            have c39b0 : (t419 == 0) = true := beq_iff_eq.mpr c39
            have c39b1 : (t419 != 0) = false := bne_eq_false_iff_eq.mpr c39
            clear c39
            by_cases c40 : a1.size + a2_1.size ≤ 9223372036854775807
            ·rw [if_pos c40] at H
             have c40b0 := eq_true c40
             have c40b1 : decide (a1.size + a2_1.size ≤ 9223372036854775807) = true := decide_eq_true c40
             try have c40b2 : (9223372036854775807 < a1.size + a2_1.size) = False := eq_false (Nat.not_lt.2 c40)
             try (have c40b3 := c40b2; simp only [ByteArray.size_extract, ByteArray.size_append, Nat.min_self, Nat.sub_zero] at c40b3)
             replace H := Option.bind_eq_some_iff.mp H
             obtain ⟨⟨t423, t424, t425⟩, A410, H⟩ := H
             replace H : (if t417.toList = t423.toList then (if t425 = 0 then (if t424 = t418 then (groatlaw12_CellParts.l0 kj25 a1 (wrap64 (x7_2 + 1)) a0_0 a0_1 a0_2 a0_3 a0_4 a2_0 a2_1) else (some false)) else (some false)) else (some false)) = some r := H
             have A41 := Aside0.mk A410
             clear A410
             by_cases c42 : t417.toList = t423.toList
             ·rw [if_pos c42] at H
              have c42b0 : (t417.toList == t423.toList) = true := beq_iff_eq.mpr c42
              have c42b1 : (t417.toList != t423.toList) = false := bne_eq_false_iff_eq.mpr c42
              clear c42
              by_cases c43 : t425 = 0
              ·rw [if_pos c43] at H
               have c43b0 : (t425 == 0) = true := beq_iff_eq.mpr c43
               have c43b1 : (t425 != 0) = false := bne_eq_false_iff_eq.mpr c43
               clear c43
               by_cases c44 : t424 = t418
               ·rw [if_pos c44] at H
                have c44b0 : (t424 == t418) = true := beq_iff_eq.mpr c44
                have c44b1 : (t424 != t418) = false := bne_eq_false_iff_eq.mpr c44
                clear c44
                have H' := Aside0.mk H
                clear H
                have hnb45 := NB413_414.out
                have hnc45 := NB414_413.out
                have hcz46_0 : wc.cell? ⟨gb413, 0, none⟩ = some (.int .i64 a0_0) := (blk_cell BK413.out 0).trans rfl
                have hcz46_1 : wc.cell? ⟨gb413, 1, none⟩ = some (.int .i64 a0_1) := (blk_cell BK413.out 1).trans rfl
                have hcz46_2 : wc.cell? ⟨gb413, 2, none⟩ = some (.int .i64 a0_2) := (blk_cell BK413.out 2).trans rfl
                have hcz46_3 : wc.cell? ⟨gb413, 3, none⟩ = some (.int .i64 a0_3) := (blk_cell BK413.out 3).trans rfl
                have hcz46_4 : wc.cell? ⟨gb413, 4, none⟩ = some (.int .i64 a0_4) := (blk_cell BK413.out 4).trans rfl
                have hfz46_0 := blk_frozen BK413.out 0
                have hfz46_1 := blk_frozen BK413.out 1
                have hfz46_2 := blk_frozen BK413.out 2
                have hfz46_3 := blk_frozen BK413.out 3
                have hfz46_4 := blk_frozen BK413.out 4
                have hcz47_0 : wc.cell? ⟨gb414, 0, none⟩ = some (.string a2_0) := (blk_cell BK414.out 0).trans rfl
                have hcz47_1 : wc.cell? ⟨gb414, 1, none⟩ = some (.string a2_1) := (blk_cell BK414.out 1).trans rfl
                have hfz47_0 := blk_frozen BK414.out 0
                have hfz47_1 := blk_frozen BK414.out 1
                go_wp2_with (first | ((with_reducible refine gate_callee (f := 23) rfl ?_); refine goesL_ (some 90) rfl rfl Try.func23 (by kernel_rfl) rfl #[.int .i64 x7_2, .agg #[.int .i64 a0_0, .int .i64 a0_1, .int .i64 a0_2, .int .i64 a0_3, .int .i64 a0_4], .string (a1 ++ a2_1), .int .i64 0] rfl (by (try simp only [List.map_toArray, List.map_cons, List.map_nil]); first | done | rfl | (simp only [List.length_drop, List.length_take]; rfl)) ?_; (with_reducible refine (cell_Get.calls kj25 x7_2 a0_0 a0_1 a0_2 a0_3 a0_4 (a1 ++ a2_1) 0 t423 t424 t425 _ A41.out).mono ?_); rintro e w48 ⟨rfl, hb⟩; refine ⟨_, rfl, ?_⟩; have n0_ := Aside0.mk (blk_below (g := gb413) (o := .cells #[.int .i64 a0_0, .int .i64 a0_1, .int .i64 a0_2, .int .i64 a0_3, .int .i64 a0_4] 23 (0, 0)) (by (with_reducible repeat (first | refine blk_drewN ?_ _ | refine blk_drew ?_ | refine blk_alloc ?_ _)); exact BK413.out) hb); have n1_ := Aside0.mk (blk_below (g := gb414) (o := .cells #[.string a2_0, .string a2_1] 43 (0, 0)) (by (with_reducible repeat (first | refine blk_drewN ?_ _ | refine blk_drew ?_ | refine blk_alloc ?_ _)); exact BK414.out) hb); have n2_ := Aside0.mk (below_step (by repeat (first | (with_reducible first | exact HB.out | apply below_alloc | apply pw_below_drewN | apply below_drew1 | refine below_set ?_ GE413.out | refine below_set ?_ GE414.out) | exact HB.out)) hb); clear BK413; clear BK414; clear HB; have BK413 := n0_; have BK414 := n1_; have HB := n2_; clear n0_ n1_ n2_; (try clear hb); (try clear hb2); (try clear hk); (try clear hi)))
                go_roundg kj25
                case measure => have := HJ3.out; have := HK2.out; have := HJ25.out; omega
                case rel => exact ⟨(wrap64 (x7_2 + 1)), (by first | rfl | (simp; done) | (simp [*]; done) | (simp [wrap64]; done)), H', ⟨by have := HJ3.out; have := HK2.out; have := HJ25.out; omega⟩, ⟨by (with_reducible repeat (first | refine blk_drewN ?_ _ | refine blk_drew ?_ | refine blk_alloc ?_ _)); exact BK413.out⟩, ⟨by (with_reducible repeat (first | refine blk_drewN ?_ _ | refine blk_drew ?_ | refine blk_alloc ?_ _)); exact BK414.out⟩, ⟨by repeat (first | (with_reducible first | exact HB.out | apply below_alloc | apply pw_below_drewN | apply below_drew1 | refine below_set ?_ GE413.out | refine below_set ?_ GE414.out) | exact HB.out)⟩⟩
               ·rw [if_neg c44] at H
                have c44b0 : (t424 == t418) = false := beq_eq_false_iff_ne.mpr c44
                have c44b1 : (t424 != t418) = true := bne_iff_ne.mpr c44
                obtain rfl := Option.some.inj H
                have hnb49 := NB413_414.out
                have hnc49 := NB414_413.out
                have hcz50_0 : wc.cell? ⟨gb413, 0, none⟩ = some (.int .i64 a0_0) := (blk_cell BK413.out 0).trans rfl
                have hcz50_1 : wc.cell? ⟨gb413, 1, none⟩ = some (.int .i64 a0_1) := (blk_cell BK413.out 1).trans rfl
                have hcz50_2 : wc.cell? ⟨gb413, 2, none⟩ = some (.int .i64 a0_2) := (blk_cell BK413.out 2).trans rfl
                have hcz50_3 : wc.cell? ⟨gb413, 3, none⟩ = some (.int .i64 a0_3) := (blk_cell BK413.out 3).trans rfl
                have hcz50_4 : wc.cell? ⟨gb413, 4, none⟩ = some (.int .i64 a0_4) := (blk_cell BK413.out 4).trans rfl
                have hfz50_0 := blk_frozen BK413.out 0
                have hfz50_1 := blk_frozen BK413.out 1
                have hfz50_2 := blk_frozen BK413.out 2
                have hfz50_3 := blk_frozen BK413.out 3
                have hfz50_4 := blk_frozen BK413.out 4
                have hcz51_0 : wc.cell? ⟨gb414, 0, none⟩ = some (.string a2_0) := (blk_cell BK414.out 0).trans rfl
                have hcz51_1 : wc.cell? ⟨gb414, 1, none⟩ = some (.string a2_1) := (blk_cell BK414.out 1).trans rfl
                have hfz51_0 := blk_frozen BK414.out 0
                have hfz51_1 := blk_frozen BK414.out 1
                go_wp2_with (first | ((with_reducible refine gate_callee (f := 23) rfl ?_); refine goesL_ (some 90) rfl rfl Try.func23 (by kernel_rfl) rfl #[.int .i64 x7_2, .agg #[.int .i64 a0_0, .int .i64 a0_1, .int .i64 a0_2, .int .i64 a0_3, .int .i64 a0_4], .string (a1 ++ a2_1), .int .i64 0] rfl (by (try simp only [List.map_toArray, List.map_cons, List.map_nil]); first | done | rfl | (simp only [List.length_drop, List.length_take]; rfl)) ?_; (with_reducible refine (cell_Get.calls kj25 x7_2 a0_0 a0_1 a0_2 a0_3 a0_4 (a1 ++ a2_1) 0 t423 t424 t425 _ A41.out).mono ?_); rintro e w52 ⟨rfl, hb⟩; refine ⟨_, rfl, ?_⟩; have n0_ := Aside0.mk (blk_below (g := gb413) (o := .cells #[.int .i64 a0_0, .int .i64 a0_1, .int .i64 a0_2, .int .i64 a0_3, .int .i64 a0_4] 23 (0, 0)) (by (with_reducible repeat (first | refine blk_drewN ?_ _ | refine blk_drew ?_ | refine blk_alloc ?_ _)); exact BK413.out) hb); have n1_ := Aside0.mk (blk_below (g := gb414) (o := .cells #[.string a2_0, .string a2_1] 43 (0, 0)) (by (with_reducible repeat (first | refine blk_drewN ?_ _ | refine blk_drew ?_ | refine blk_alloc ?_ _)); exact BK414.out) hb); have n2_ := Aside0.mk (below_step (by repeat (first | (with_reducible first | exact HB.out | apply below_alloc | apply pw_below_drewN | apply below_drew1 | refine below_set ?_ GE413.out | refine below_set ?_ GE414.out) | exact HB.out)) hb); clear BK413; clear BK414; clear HB; have BK413 := n0_; have BK414 := n1_; have HB := n2_; clear n0_ n1_ n2_; (try clear hb); (try clear hb2); (try clear hk); (try clear hi)))
                go_ret
                exact ⟨by first | rfl | (simp [errW_none, errW_some] <;> rfl) | (simp [*, errW_none, errW_some] <;> rfl), by repeat (first | (with_reducible first | exact HB.out | apply below_alloc | apply pw_below_drewN | apply below_drew1 | refine below_set ?_ GE413.out | refine below_set ?_ GE414.out) | exact HB.out)⟩
              ·rw [if_neg c43] at H
               have c43b0 : (t425 == 0) = false := beq_eq_false_iff_ne.mpr c43
               have c43b1 : (t425 != 0) = true := bne_iff_ne.mpr c43
               obtain rfl := Option.some.inj H
               have hnb53 := NB413_414.out
               have hnc53 := NB414_413.out
               have hcz54_0 : wc.cell? ⟨gb413, 0, none⟩ = some (.int .i64 a0_0) := (blk_cell BK413.out 0).trans rfl
               have hcz54_1 : wc.cell? ⟨gb413, 1, none⟩ = some (.int .i64 a0_1) := (blk_cell BK413.out 1).trans rfl
               have hcz54_2 : wc.cell? ⟨gb413, 2, none⟩ = some (.int .i64 a0_2) := (blk_cell BK413.out 2).trans rfl
               have hcz54_3 : wc.cell? ⟨gb413, 3, none⟩ = some (.int .i64 a0_3) := (blk_cell BK413.out 3).trans rfl
               have hcz54_4 : wc.cell? ⟨gb413, 4, none⟩ = some (.int .i64 a0_4) := (blk_cell BK413.out 4).trans rfl
               have hfz54_0 := blk_frozen BK413.out 0
               have hfz54_1 := blk_frozen BK413.out 1
               have hfz54_2 := blk_frozen BK413.out 2
               have hfz54_3 := blk_frozen BK413.out 3
               have hfz54_4 := blk_frozen BK413.out 4
               have hcz55_0 : wc.cell? ⟨gb414, 0, none⟩ = some (.string a2_0) := (blk_cell BK414.out 0).trans rfl
               have hcz55_1 : wc.cell? ⟨gb414, 1, none⟩ = some (.string a2_1) := (blk_cell BK414.out 1).trans rfl
               have hfz55_0 := blk_frozen BK414.out 0
               have hfz55_1 := blk_frozen BK414.out 1
               go_wp2_with (first | ((with_reducible refine gate_callee (f := 23) rfl ?_); refine goesL_ (some 90) rfl rfl Try.func23 (by kernel_rfl) rfl #[.int .i64 x7_2, .agg #[.int .i64 a0_0, .int .i64 a0_1, .int .i64 a0_2, .int .i64 a0_3, .int .i64 a0_4], .string (a1 ++ a2_1), .int .i64 0] rfl (by (try simp only [List.map_toArray, List.map_cons, List.map_nil]); first | done | rfl | (simp only [List.length_drop, List.length_take]; rfl)) ?_; (with_reducible refine (cell_Get.calls kj25 x7_2 a0_0 a0_1 a0_2 a0_3 a0_4 (a1 ++ a2_1) 0 t423 t424 t425 _ A41.out).mono ?_); rintro e w56 ⟨rfl, hb⟩; refine ⟨_, rfl, ?_⟩; have n0_ := Aside0.mk (blk_below (g := gb413) (o := .cells #[.int .i64 a0_0, .int .i64 a0_1, .int .i64 a0_2, .int .i64 a0_3, .int .i64 a0_4] 23 (0, 0)) (by (with_reducible repeat (first | refine blk_drewN ?_ _ | refine blk_drew ?_ | refine blk_alloc ?_ _)); exact BK413.out) hb); have n1_ := Aside0.mk (blk_below (g := gb414) (o := .cells #[.string a2_0, .string a2_1] 43 (0, 0)) (by (with_reducible repeat (first | refine blk_drewN ?_ _ | refine blk_drew ?_ | refine blk_alloc ?_ _)); exact BK414.out) hb); have n2_ := Aside0.mk (below_step (by repeat (first | (with_reducible first | exact HB.out | apply below_alloc | apply pw_below_drewN | apply below_drew1 | refine below_set ?_ GE413.out | refine below_set ?_ GE414.out) | exact HB.out)) hb); clear BK413; clear BK414; clear HB; have BK413 := n0_; have BK414 := n1_; have HB := n2_; clear n0_ n1_ n2_; (try clear hb); (try clear hb2); (try clear hk); (try clear hi)))
               go_ret
               exact ⟨by first | rfl | (simp [errW_none, errW_some] <;> rfl) | (simp [*, errW_none, errW_some] <;> rfl), by repeat (first | (with_reducible first | exact HB.out | apply below_alloc | apply pw_below_drewN | apply below_drew1 | refine below_set ?_ GE413.out | refine below_set ?_ GE414.out) | exact HB.out)⟩
             ·rw [if_neg c42] at H
              have c42b0 : (t417.toList == t423.toList) = false := beq_eq_false_iff_ne.mpr c42
              have c42b1 : (t417.toList != t423.toList) = true := bne_iff_ne.mpr c42
              obtain rfl := Option.some.inj H
              have hnb57 := NB413_414.out
              have hnc57 := NB414_413.out
              have hcz58_0 : wc.cell? ⟨gb413, 0, none⟩ = some (.int .i64 a0_0) := (blk_cell BK413.out 0).trans rfl
              have hcz58_1 : wc.cell? ⟨gb413, 1, none⟩ = some (.int .i64 a0_1) := (blk_cell BK413.out 1).trans rfl
              have hcz58_2 : wc.cell? ⟨gb413, 2, none⟩ = some (.int .i64 a0_2) := (blk_cell BK413.out 2).trans rfl
              have hcz58_3 : wc.cell? ⟨gb413, 3, none⟩ = some (.int .i64 a0_3) := (blk_cell BK413.out 3).trans rfl
              have hcz58_4 : wc.cell? ⟨gb413, 4, none⟩ = some (.int .i64 a0_4) := (blk_cell BK413.out 4).trans rfl
              have hfz58_0 := blk_frozen BK413.out 0
              have hfz58_1 := blk_frozen BK413.out 1
              have hfz58_2 := blk_frozen BK413.out 2
              have hfz58_3 := blk_frozen BK413.out 3
              have hfz58_4 := blk_frozen BK413.out 4
              have hcz59_0 : wc.cell? ⟨gb414, 0, none⟩ = some (.string a2_0) := (blk_cell BK414.out 0).trans rfl
              have hcz59_1 : wc.cell? ⟨gb414, 1, none⟩ = some (.string a2_1) := (blk_cell BK414.out 1).trans rfl
              have hfz59_0 := blk_frozen BK414.out 0
              have hfz59_1 := blk_frozen BK414.out 1
              go_wp2_with (first | ((with_reducible refine gate_callee (f := 23) rfl ?_); refine goesL_ (some 90) rfl rfl Try.func23 (by kernel_rfl) rfl #[.int .i64 x7_2, .agg #[.int .i64 a0_0, .int .i64 a0_1, .int .i64 a0_2, .int .i64 a0_3, .int .i64 a0_4], .string (a1 ++ a2_1), .int .i64 0] rfl (by (try simp only [List.map_toArray, List.map_cons, List.map_nil]); first | done | rfl | (simp only [List.length_drop, List.length_take]; rfl)) ?_; (with_reducible refine (cell_Get.calls kj25 x7_2 a0_0 a0_1 a0_2 a0_3 a0_4 (a1 ++ a2_1) 0 t423 t424 t425 _ A41.out).mono ?_); rintro e w60 ⟨rfl, hb⟩; refine ⟨_, rfl, ?_⟩; have n0_ := Aside0.mk (blk_below (g := gb413) (o := .cells #[.int .i64 a0_0, .int .i64 a0_1, .int .i64 a0_2, .int .i64 a0_3, .int .i64 a0_4] 23 (0, 0)) (by (with_reducible repeat (first | refine blk_drewN ?_ _ | refine blk_drew ?_ | refine blk_alloc ?_ _)); exact BK413.out) hb); have n1_ := Aside0.mk (blk_below (g := gb414) (o := .cells #[.string a2_0, .string a2_1] 43 (0, 0)) (by (with_reducible repeat (first | refine blk_drewN ?_ _ | refine blk_drew ?_ | refine blk_alloc ?_ _)); exact BK414.out) hb); have n2_ := Aside0.mk (below_step (by repeat (first | (with_reducible first | exact HB.out | apply below_alloc | apply pw_below_drewN | apply below_drew1 | refine below_set ?_ GE413.out | refine below_set ?_ GE414.out) | exact HB.out)) hb); clear BK413; clear BK414; clear HB; have BK413 := n0_; have BK414 := n1_; have HB := n2_; clear n0_ n1_ n2_; (try clear hb); (try clear hb2); (try clear hk); (try clear hi)))
              go_ret
              exact ⟨by first | rfl | (simp [errW_none, errW_some] <;> rfl) | (simp [*, errW_none, errW_some] <;> rfl), by repeat (first | (with_reducible first | exact HB.out | apply below_alloc | apply pw_below_drewN | apply below_drew1 | refine below_set ?_ GE413.out | refine below_set ?_ GE414.out) | exact HB.out)⟩
            ·rw [if_neg c40] at H
             exact absurd H (by simp)
           ·rw [if_neg c39] at H
            have c39b0 : (t419 == 0) = false := beq_eq_false_iff_ne.mpr c39
            have c39b1 : (t419 != 0) = true := bne_iff_ne.mpr c39
            have H' := Aside0.mk H
            clear H
            go_wp2
            go_roundg kj25
            case measure => have := HJ3.out; have := HK2.out; have := HJ25.out; omega
            case rel => exact ⟨(wrap64 (x7_2 + 1)), (by first | rfl | (simp; done) | (simp [*]; done) | (simp [wrap64]; done)), H', ⟨by have := HJ3.out; have := HK2.out; have := HJ25.out; omega⟩, ⟨by (with_reducible repeat (first | refine blk_drewN ?_ _ | refine blk_drew ?_ | refine blk_alloc ?_ _)); exact BK413.out⟩, ⟨by (with_reducible repeat (first | refine blk_drewN ?_ _ | refine blk_drew ?_ | refine blk_alloc ?_ _)); exact BK414.out⟩, ⟨by repeat (first | (with_reducible first | exact HB.out | apply below_alloc | apply pw_below_drewN | apply below_drew1 | refine below_set ?_ GE413.out | refine below_set ?_ GE414.out) | exact HB.out)⟩⟩
       ·rw [if_neg c24] at H
        exact absurd H (by simp)
      ·rw [if_neg c22] at H
       have c22b0 : decide (x7_2 ≤ 2) = false := decide_eq_false c22
       clear c22
       obtain rfl := Option.some.inj H
       go_wp2
       go_ret
       exact ⟨by first | rfl | (simp [errW_none, errW_some] <;> rfl) | (simp [*, errW_none, errW_some] <;> rfl), by repeat (first | (with_reducible first | exact HB.out | apply below_alloc | apply pw_below_drewN | apply below_drew1 | refine below_set ?_ GE413.out | refine below_set ?_ GE414.out) | exact HB.out)⟩

/-- THE ONE PURE STATEMENT of groatlaw12_CellParts. -/
def groatlaw12_CellParts.Pure : Prop := ∀ (x0 : S23) (x1 : ByteArray) (x2 : S43), Q23 x0 → x1.size ≤ 140737488351232 → Q43 x2 → ∃ k, groatlaw12_CellParts.f k x0.f0 x0.f1 x0.f2 x0.f3 x0.f4 x1 x2.f0 x2.f1 = some true

end Go.Proofs.Ytfaeodcapagjbaa.P
