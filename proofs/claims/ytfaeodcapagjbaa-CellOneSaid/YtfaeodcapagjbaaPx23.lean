-- written for this claim by wip/pp.py
import Derived.Test.YtfaeodcapagjbaaPx0
import Derived.Test.YtfaeodcapagjbaaPx6
import Derived.Test.YtfaeodcapagjbaaPx8
import Derived.Test.YtfaeodcapagjbaaPx9
namespace Go.Proofs.Ytfaeodcapagjbaa.P
open Go.RowKit Go.Proofs.YtfaeodcapagjbaaW.PrintWords Go.Proofs.YtfaeodcapagjbaaW.PrintLast Go.Proofs.YtfaeodcapagjbaaW.PrintMore
attribute [local go_sem] max2_int min2_int max_two min_two max_three min_three max_four min_four   -- for this text's walks alone
set_option linter.unusedVariables false
set_option linter.unusedSimpArgs false

/-! ### groatlaw12_CellOne: function 11 -/
def groatlaw12_CellOne.j0 : Nat → Int → ByteArray → Bool → Int → Int → Int → Int → Int → Option (Bool)
 | 0, _, _, _, _, _, _, _, _ => none
 | k + 1, x0, x2, x18, x406000, x406001, x406002, x406003, x406004 => if x18 = true then ((groatlaw12_awake.f k).bind fun t407 => (some t407)) else ((cell_Get.f k x0 x406000 x406001 x406002 x406003 x406004 x2 0).bind fun bt408 => (if bt408.2.2 = 0 then ((cell_Put.f k x0 x406000 x406001 x406002 x406003 x406004 bt408.1).bind fun bt411 => (if bt411.2 = 0 then (if bt408.2.1 ≥ 0 then (if bt408.2.1 ≤ (x2.size : Int) then (if 0 ≤ bt408.2.1 then (some (bt411.1.toList == (x2.extract 0 (bt408.2.1 : Int).toNat).toList)) else (none)) else (some false)) else (some false)) else (some false))) else (if bt408.1.toList = ([] : List UInt8) then (some (bt408.2.1 == 0)) else (some false))))
def groatlaw12_CellOne.f (k : Nat) (a0 : Int) (a1_0 : Int) (a1_1 : Int) (a1_2 : Int) (a1_3 : Int) (a1_4 : Int) (a2 : ByteArray) : Option (Bool) := (groatlaw12_awake.f k).bind fun t406 => (if t406 = true then (groatlaw12_CellOne.j0 k a0 a2 (decide ((a2.size : Int) > 2500)) a1_0 a1_1 a1_2 a1_3 a1_4) else (groatlaw12_CellOne.j0 k a0 a2 true a1_0 a1_1 a1_2 a1_3 a1_4))
theorem groatlaw12_CellOne.mono_l : ∀ k, (∀ y0 y1 y2 y3 y4 y5 y6 y7, LeO (groatlaw12_CellOne.j0 k y0 y1 y2 y3 y4 y5 y6 y7) (groatlaw12_CellOne.j0 (k + 1) y0 y1 y2 y3 y4 y5 y6 y7))
 | 0 => fun _ _ _ _ _ _ _ _ r h => by simp [groatlaw12_CellOne.j0] at h
 | k + 1 => by
  have ih0 := groatlaw12_CellOne.mono_l k
  ·intro y0 y1 y2 y3 y4 y5 y6 y7
   unfold groatlaw12_CellOne.j0
   repeat' first
   | (with_reducible exact ih0 _ _ _ _ _ _ _ _)
   | (with_reducible exact cell_Get.mono _ _ _ _ _ _ _ _ _)
   | (with_reducible exact cell_Put.mono _ _ _ _ _ _ _ _)
   | (with_reducible exact groatlaw12_awake.mono _)
   | (with_reducible exact LeO.refl _)
   | (with_reducible exact LeO.none _)
   | (with_reducible refine LeO.ite ?_ ?_)
   | (with_reducible refine LeO.bind ?_ (fun _ => ?_))
   | exact ih0 _ _ _ _ _ _ _ _
   | exact cell_Get.mono _ _ _ _ _ _ _ _ _
   | exact cell_Put.mono _ _ _ _ _ _ _ _
   | exact groatlaw12_awake.mono _
   | exact LeO.none _
   | refine LeO.ite ?_ ?_
   | refine LeO.bind ?_ (fun _ => ?_)
theorem groatlaw12_CellOne.mono : ∀ a0 a1 a2 a3 a4 a5 a6 k, LeO (groatlaw12_CellOne.f k a0 a1 a2 a3 a4 a5 a6) (groatlaw12_CellOne.f (k + 1) a0 a1 a2 a3 a4 a5 a6) := by
 intro a0 a1 a2 a3 a4 a5 a6 k
 have ih0 := groatlaw12_CellOne.mono_l k
 unfold groatlaw12_CellOne.f
 repeat' first
   | (with_reducible exact ih0 _ _ _ _ _ _ _ _)
   | (with_reducible exact cell_Get.mono _ _ _ _ _ _ _ _ _)
   | (with_reducible exact cell_Put.mono _ _ _ _ _ _ _ _)
   | (with_reducible exact groatlaw12_awake.mono _)
   | (with_reducible exact LeO.refl _)
   | (with_reducible exact LeO.none _)
   | (with_reducible refine LeO.ite ?_ ?_)
   | (with_reducible refine LeO.bind ?_ (fun _ => ?_))
   | exact ih0 _ _ _ _ _ _ _ _
   | exact cell_Get.mono _ _ _ _ _ _ _ _ _
   | exact cell_Put.mono _ _ _ _ _ _ _ _
   | exact groatlaw12_awake.mono _
   | exact LeO.none _
   | refine LeO.ite ?_ ?_
   | refine LeO.bind ?_ (fun _ => ?_)
set_option maxHeartbeats 8000000 in
set_option maxRecDepth 100000 in
theorem groatlaw12_CellOne.calls (k : Nat) (a0 : Int) (a1_0 : Int) (a1_1 : Int) (a1_2 : Int) (a1_3 : Int) (a1_4 : Int) (a2 : ByteArray) (r : Bool) (w : World) (h : groatlaw12_CellOne.f k a0 a1_0 a1_1 a1_2 a1_3 a1_4 a2 = some r) :
  Calls Try.prog 11 #[.int .i64 a0, .agg #[.int .i64 a1_0, .int .i64 a1_1, .int .i64 a1_2, .int .i64 a1_3, .int .i64 a1_4], .string a2] w fun e w' => e = .returned (.bool r) ∧ Below w.heap.size w w' := by
 have hu23 := Try.underlying23
 have HB := Aside0.mk (Below.refl w.heap.size w)
 have H : ((groatlaw12_awake.f k).bind fun t406 => (if t406 = true then (groatlaw12_CellOne.j0 k a0 a2 (decide ((a2.size : Int) > 2500)) a1_0 a1_1 a1_2 a1_3 a1_4) else (groatlaw12_CellOne.j0 k a0 a2 true a1_0 a1_1 a1_2 a1_3 a1_4))) = some r := h
 clear h
 have HC4 := Aside0.mk H
 clear H
 go_enter Try.func11, Try.ntmps11
 go_upto_region 1 with (first | ((with_reducible refine gate_dst (N := 4) rfl ?_); refine box_event ?hg (N := 4) ?hd (cs := #[.int .i64 a1_0, .int .i64 a1_1, .int .i64 a1_2, .int .i64 a1_3, .int .i64 a1_4]) (t := 23) ?hr ?_; (case hd => rfl); (case hg => rfl); (case hr => first | (go_simp; done) | (go_simp; rfl) | (have hu8_ := IntKind.wrap_u8; go_simp; done) | (have hu8_ := IntKind.wrap_u8; go_simp; rfl) | (go_simp; simp [IntKind.wrap_u8]; done)); intro gb405 hg w5 hbox hb; have n0_ := Aside0.mk (below_step (by repeat (first | (with_reducible first | exact HB.out | apply below_alloc | apply pw_below_drewN | apply below_drew1) | exact HB.out)) hb); have n1_ := Aside0.mk (hbox); have n2_ := Aside0.mk ((by rw [hg]; exact (below_size (by repeat (first | (with_reducible first | exact HB.out | apply below_alloc | apply pw_below_drewN | apply below_drew1) | exact HB.out))) : w.heap.size ≤ gb405)); have n3_ := Aside0.mk ((by rw [hg]; exact (below_size (by repeat (first | (with_reducible first | exact HB.out | apply below_alloc | apply pw_below_drewN | apply below_drew1) | exact HB.out))) : w.heap.size ≤ gb405)); clear HB; have HB := n0_; have BK405 := n1_; have GW405 := n2_; have GE405 := n3_; clear n0_ n1_ n2_ n3_; clear hb hbox hg))
 (try simp only [Act.put, List.setIfInBounds_toArray, List.set_cons_zero, List.set_cons_succ])
 go_cut [18] (fun v18 wc => ∃ (kq : Nat) (x18_3 : Bool), v18 = .bool x18_3 ∧ Aside0 (groatlaw12_CellOne.j0 kq a0 a2 x18_3 a1_0 a1_1 a1_2 a1_3 a1_4 = some r) ∧ Aside0 (kq ≤ k) ∧ Aside0 (wc.heap[gb405]? = some (.cells #[.int .i64 a1_0, .int .i64 a1_1, .int .i64 a1_2, .int .i64 a1_3, .int .i64 a1_4] 23 (0, 0))) ∧ Aside0 (Below w.heap.size w wc))
 case first =>
  have H := HC4.out
  clear HC4
  replace H := Option.bind_eq_some_iff.mp H
  obtain ⟨t406, A60, H⟩ := H
  replace H : (if t406 = true then (groatlaw12_CellOne.j0 k a0 a2 (decide ((a2.size : Int) > 2500)) a1_0 a1_1 a1_2 a1_3 a1_4) else (groatlaw12_CellOne.j0 k a0 a2 true a1_0 a1_1 a1_2 a1_3 a1_4)) = some r := H
  have A6 := Aside0.mk A60
  clear A60
  by_cases c7 : t406 = true
  ·subst c7
   have H1 : (groatlaw12_CellOne.j0 k a0 a2 (decide ((a2.size : Int) > 2500)) a1_0 a1_1 a1_2 a1_3 a1_4) = some r := by rw [if_pos rfl] at H; exact H
   clear H
   have H := H1
   clear H1
   have H' := Aside0.mk H
   clear H
   go_wp2_with (first | ((with_reducible refine gate_callee (f := 20) rfl ?_); refine goesL_ (some 12) rfl rfl Try.func20 (by kernel_rfl) rfl #[] rfl (by (try simp only [List.map_toArray, List.map_cons, List.map_nil]); first | done | rfl | (simp only [List.length_drop, List.length_take]; rfl)) ?_; (with_reducible refine (groatlaw12_awake.calls k  true _ A6.out).mono ?_); rintro e w8 ⟨rfl, hb⟩; refine ⟨_, rfl, ?_⟩; have n0_ := Aside0.mk (blk_below (g := gb405) (o := .cells #[.int .i64 a1_0, .int .i64 a1_1, .int .i64 a1_2, .int .i64 a1_3, .int .i64 a1_4] 23 (0, 0)) (by (with_reducible repeat (first | refine blk_drewN ?_ _ | refine blk_drew ?_ | refine blk_alloc ?_ _)); exact BK405.out) hb); have n1_ := Aside0.mk (below_step (by repeat (first | (with_reducible first | exact HB.out | apply below_alloc | apply pw_below_drewN | apply below_drew1 | refine below_set ?_ GE405.out) | exact HB.out)) hb); clear BK405; clear HB; have BK405 := n0_; have HB := n1_; clear n0_ n1_; (try clear hb); (try clear hb2); (try clear hk); (try clear hi)))
   go_meet
   case rel => exact ⟨_, (decide ((a2.size : Int) > 2500)), (by first | rfl | (simp; done) | (simp [*]; done) | (simp [wrap64]; done)), H', ⟨by first | omega | exact Nat.le_refl _⟩, ⟨by (with_reducible repeat (first | refine blk_drewN ?_ _ | refine blk_drew ?_ | refine blk_alloc ?_ _)); exact BK405.out⟩, ⟨by repeat (first | (with_reducible first | exact HB.out | apply below_alloc | apply pw_below_drewN | apply below_drew1 | refine below_set ?_ GE405.out) | exact HB.out)⟩⟩
  ·replace c7 := Bool.eq_false_iff.mpr c7
   subst c7
   have H1 : (groatlaw12_CellOne.j0 k a0 a2 true a1_0 a1_1 a1_2 a1_3 a1_4) = some r := by rw [if_neg (show ¬ (false = true) by decide)] at H; exact H
   clear H
   have H := H1
   clear H1
   have H' := Aside0.mk H
   clear H
   go_wp2_with (first | ((with_reducible refine gate_callee (f := 20) rfl ?_); refine goesL_ (some 12) rfl rfl Try.func20 (by kernel_rfl) rfl #[] rfl (by (try simp only [List.map_toArray, List.map_cons, List.map_nil]); first | done | rfl | (simp only [List.length_drop, List.length_take]; rfl)) ?_; (with_reducible refine (groatlaw12_awake.calls k  false _ A6.out).mono ?_); rintro e w9 ⟨rfl, hb⟩; refine ⟨_, rfl, ?_⟩; have n0_ := Aside0.mk (blk_below (g := gb405) (o := .cells #[.int .i64 a1_0, .int .i64 a1_1, .int .i64 a1_2, .int .i64 a1_3, .int .i64 a1_4] 23 (0, 0)) (by (with_reducible repeat (first | refine blk_drewN ?_ _ | refine blk_drew ?_ | refine blk_alloc ?_ _)); exact BK405.out) hb); have n1_ := Aside0.mk (below_step (by repeat (first | (with_reducible first | exact HB.out | apply below_alloc | apply pw_below_drewN | apply below_drew1 | refine below_set ?_ GE405.out) | exact HB.out)) hb); clear BK405; clear HB; have BK405 := n0_; have HB := n1_; clear n0_ n1_; (try clear hb); (try clear hb2); (try clear hk); (try clear hi)))
   go_meet
   case rel => exact ⟨_, (true), (by first | rfl | (simp; done) | (simp [*]; done) | (simp [wrap64]; done)), H', ⟨by first | omega | exact Nat.le_refl _⟩, ⟨by (with_reducible repeat (first | refine blk_drewN ?_ _ | refine blk_drew ?_ | refine blk_alloc ?_ _)); exact BK405.out⟩, ⟨by repeat (first | (with_reducible first | exact HB.out | apply below_alloc | apply pw_below_drewN | apply below_drew1 | refine below_set ?_ GE405.out) | exact HB.out)⟩⟩
 case rest =>
  clear HC4
  try clear c1
  try clear c2
  try clear p2
  try clear p6
  try clear c7
  obtain ⟨kq, x18_3, rfl, HA, HJ3, BK405, HB⟩ := hcut
  cases kq with
  | zero => exact absurd HA.out (by simp [groatlaw12_CellOne.j0])
  | succ kj3 =>
   have H := HA.out
   clear HA
   simp only [groatlaw12_CellOne.j0] at H
   by_cases c10 : x18_3 = true
   ·subst c10
    have H1 : ((groatlaw12_awake.f kj3).bind fun t407 => (some t407)) = some r := by rw [if_pos rfl] at H; exact H
    clear H
    have H := H1
    clear H1
    replace H := Option.bind_eq_some_iff.mp H
    obtain ⟨t407, A110, H⟩ := H
    replace H : (some t407) = some r := H
    have A11 := Aside0.mk A110
    clear A110
    obtain rfl := Option.some.inj H
    go_wp2_with (first | ((with_reducible refine gate_callee (f := 20) rfl ?_); refine goesL_ (some 19) rfl rfl Try.func20 (by kernel_rfl) rfl #[] rfl (by (try simp only [List.map_toArray, List.map_cons, List.map_nil]); first | done | rfl | (simp only [List.length_drop, List.length_take]; rfl)) ?_; (with_reducible refine (groatlaw12_awake.calls kj3  t407 _ A11.out).mono ?_); rintro e w12 ⟨rfl, hb⟩; refine ⟨_, rfl, ?_⟩; have n0_ := Aside0.mk (blk_below (g := gb405) (o := .cells #[.int .i64 a1_0, .int .i64 a1_1, .int .i64 a1_2, .int .i64 a1_3, .int .i64 a1_4] 23 (0, 0)) (by (with_reducible repeat (first | refine blk_drewN ?_ _ | refine blk_drew ?_ | refine blk_alloc ?_ _)); exact BK405.out) hb); have n1_ := Aside0.mk (below_step (by repeat (first | (with_reducible first | exact HB.out | apply below_alloc | apply pw_below_drewN | apply below_drew1 | refine below_set ?_ GE405.out) | exact HB.out)) hb); clear BK405; clear HB; have BK405 := n0_; have HB := n1_; clear n0_ n1_; (try clear hb); (try clear hb2); (try clear hk); (try clear hi)))
    go_ret
    exact ⟨by first | rfl | (simp [errW_none, errW_some] <;> rfl) | (simp [*, errW_none, errW_some] <;> rfl), by repeat (first | (with_reducible first | exact HB.out | apply below_alloc | apply pw_below_drewN | apply below_drew1 | refine below_set ?_ GE405.out) | exact HB.out)⟩
   ·replace c10 := Bool.eq_false_iff.mpr c10
    subst c10
    have H1 : ((cell_Get.f kj3 a0 a1_0 a1_1 a1_2 a1_3 a1_4 a2 0).bind fun bt408 => (if bt408.2.2 = 0 then ((cell_Put.f kj3 a0 a1_0 a1_1 a1_2 a1_3 a1_4 bt408.1).bind fun bt411 => (if bt411.2 = 0 then (if bt408.2.1 ≥ 0 then (if bt408.2.1 ≤ (a2.size : Int) then (if 0 ≤ bt408.2.1 then (some (bt411.1.toList == (a2.extract 0 (bt408.2.1 : Int).toNat).toList)) else (none)) else (some false)) else (some false)) else (some false))) else (if bt408.1.toList = ([] : List UInt8) then (some (bt408.2.1 == 0)) else (some false)))) = some r := by rw [if_neg (show ¬ (false = true) by decide)] at H; exact H
    clear H
    have H := H1
    clear H1
    replace H := Option.bind_eq_some_iff.mp H
    obtain ⟨⟨t408, t409, t410⟩, A130, H⟩ := H
    replace H : (if t410 = 0 then ((cell_Put.f kj3 a0 a1_0 a1_1 a1_2 a1_3 a1_4 t408).bind fun bt411 => (if bt411.2 = 0 then (if t409 ≥ 0 then (if t409 ≤ (a2.size : Int) then (if 0 ≤ t409 then (some (bt411.1.toList == (a2.extract 0 (t409 : Int).toNat).toList)) else (none)) else (some false)) else (some false)) else (some false))) else (if t408.toList = ([] : List UInt8) then (some (t409 == 0)) else (some false))) = some r := H
    have A13 := Aside0.mk A130
    clear A130
    by_cases c14 : t410 = 0
    ·rw [if_pos c14] at H
     have c14b0 : (t410 == 0) = true := beq_iff_eq.mpr c14
     have c14b1 : (t410 != 0) = false := bne_eq_false_iff_eq.mpr c14
     clear c14
     replace H := Option.bind_eq_some_iff.mp H
     obtain ⟨⟨t411, t412⟩, A150, H⟩ := H
     replace H : (if t412 = 0 then (if t409 ≥ 0 then (if t409 ≤ (a2.size : Int) then (if 0 ≤ t409 then (some (t411.toList == (a2.extract 0 (t409 : Int).toNat).toList)) else (none)) else (some false)) else (some false)) else (some false)) = some r := H
     have A15 := Aside0.mk A150
     clear A150
     by_cases c16 : t412 = 0
     ·rw [if_pos c16] at H
      have c16b0 : (t412 == 0) = true := beq_iff_eq.mpr c16
      have c16b1 : (t412 != 0) = false := bne_eq_false_iff_eq.mpr c16
      clear c16
      by_cases c17 : t409 ≥ 0
      ·rw [if_pos c17] at H
       have c17b0 : decide (0 ≤ t409) = true := decide_eq_true c17
       clear c17
       by_cases c18 : t409 ≤ (a2.size : Int)
       ·rw [if_pos c18] at H
        have c18b0 : decide (t409 ≤ (a2.size : Int)) = true := decide_eq_true c18
        clear c18
        by_cases c19 : 0 ≤ t409
        ·rw [if_pos c19] at H
         have c19b0 := eq_true c19
         have c19b1 : decide (0 ≤ t409) = true := decide_eq_true c19
         clear c19
         have c20b0 := eq_true (of_decide_eq_true (by first | (with_reducible assumption) | assumption) : t409 ≤ (a2.size : Int))
         obtain rfl := Option.some.inj H
         have hcz21_0 : wc.cell? ⟨gb405, 0, none⟩ = some (.int .i64 a1_0) := (blk_cell BK405.out 0).trans rfl
         have hcz21_1 : wc.cell? ⟨gb405, 1, none⟩ = some (.int .i64 a1_1) := (blk_cell BK405.out 1).trans rfl
         have hcz21_2 : wc.cell? ⟨gb405, 2, none⟩ = some (.int .i64 a1_2) := (blk_cell BK405.out 2).trans rfl
         have hcz21_3 : wc.cell? ⟨gb405, 3, none⟩ = some (.int .i64 a1_3) := (blk_cell BK405.out 3).trans rfl
         have hcz21_4 : wc.cell? ⟨gb405, 4, none⟩ = some (.int .i64 a1_4) := (blk_cell BK405.out 4).trans rfl
         have hfz21_0 := blk_frozen BK405.out 0
         have hfz21_1 := blk_frozen BK405.out 1
         have hfz21_2 := blk_frozen BK405.out 2
         have hfz21_3 := blk_frozen BK405.out 3
         have hfz21_4 := blk_frozen BK405.out 4
         go_wp2_with (first | ((with_reducible refine gate_callee (f := 23) rfl ?_); refine goesL_ (some 24) rfl rfl Try.func23 (by kernel_rfl) rfl #[.int .i64 a0, .agg #[.int .i64 a1_0, .int .i64 a1_1, .int .i64 a1_2, .int .i64 a1_3, .int .i64 a1_4], .string a2, .int .i64 0] rfl (by (try simp only [List.map_toArray, List.map_cons, List.map_nil]); first | done | rfl | (simp only [List.length_drop, List.length_take]; rfl)) ?_; (with_reducible refine (cell_Get.calls kj3 a0 a1_0 a1_1 a1_2 a1_3 a1_4 a2 0 t408 t409 t410 _ A13.out).mono ?_); rintro e w22 ⟨rfl, hb⟩; refine ⟨_, rfl, ?_⟩; have n0_ := Aside0.mk (blk_below (g := gb405) (o := .cells #[.int .i64 a1_0, .int .i64 a1_1, .int .i64 a1_2, .int .i64 a1_3, .int .i64 a1_4] 23 (0, 0)) (by (with_reducible repeat (first | refine blk_drewN ?_ _ | refine blk_drew ?_ | refine blk_alloc ?_ _)); exact BK405.out) hb); have n1_ := Aside0.mk (below_step (by repeat (first | (with_reducible first | exact HB.out | apply below_alloc | apply pw_below_drewN | apply below_drew1 | refine below_set ?_ GE405.out) | exact HB.out)) hb); clear BK405; clear HB; have BK405 := n0_; have HB := n1_; clear n0_ n1_; (try clear hb); (try clear hb2); (try clear hk); (try clear hi); have hcz23_0 : w22.cell? ⟨gb405, 0, none⟩ = some (.int .i64 a1_0) := (blk_cell BK405.out 0).trans rfl; have hcz23_1 : w22.cell? ⟨gb405, 1, none⟩ = some (.int .i64 a1_1) := (blk_cell BK405.out 1).trans rfl; have hcz23_2 : w22.cell? ⟨gb405, 2, none⟩ = some (.int .i64 a1_2) := (blk_cell BK405.out 2).trans rfl; have hcz23_3 : w22.cell? ⟨gb405, 3, none⟩ = some (.int .i64 a1_3) := (blk_cell BK405.out 3).trans rfl; have hcz23_4 : w22.cell? ⟨gb405, 4, none⟩ = some (.int .i64 a1_4) := (blk_cell BK405.out 4).trans rfl; have hfz23_0 := blk_frozen BK405.out 0; have hfz23_1 := blk_frozen BK405.out 1; have hfz23_2 := blk_frozen BK405.out 2; have hfz23_3 := blk_frozen BK405.out 3; have hfz23_4 := blk_frozen BK405.out 4) | ((with_reducible refine gate_callee (f := 21) rfl ?_); refine goesL_ (some 40) rfl rfl Try.func21 (by kernel_rfl) rfl #[.int .i64 a0, .agg #[.int .i64 a1_0, .int .i64 a1_1, .int .i64 a1_2, .int .i64 a1_3, .int .i64 a1_4], .string t408] rfl (by (try simp only [List.map_toArray, List.map_cons, List.map_nil]); first | done | rfl | (simp only [List.length_drop, List.length_take]; rfl)) ?_; (with_reducible refine (cell_Put.calls kj3 a0 a1_0 a1_1 a1_2 a1_3 a1_4 t408 t411 t412 _ A15.out).mono ?_); rintro e w24 ⟨rfl, hb⟩; refine ⟨_, rfl, ?_⟩; have n0_ := Aside0.mk (blk_below (g := gb405) (o := .cells #[.int .i64 a1_0, .int .i64 a1_1, .int .i64 a1_2, .int .i64 a1_3, .int .i64 a1_4] 23 (0, 0)) (by (with_reducible repeat (first | refine blk_drewN ?_ _ | refine blk_drew ?_ | refine blk_alloc ?_ _)); exact BK405.out) hb); have n1_ := Aside0.mk (below_step (by repeat (first | (with_reducible first | exact HB.out | apply below_alloc | apply pw_below_drewN | apply below_drew1 | refine below_set ?_ GE405.out) | exact HB.out)) hb); clear BK405; clear HB; have BK405 := n0_; have HB := n1_; clear n0_ n1_; (try clear hb); (try clear hb2); (try clear hk); (try clear hi)))
         go_ret
         exact ⟨by first | rfl | (simp [errW_none, errW_some] <;> rfl) | (simp [*, errW_none, errW_some] <;> rfl), by repeat (first | (with_reducible first | exact HB.out | apply below_alloc | apply pw_below_drewN | apply below_drew1 | refine below_set ?_ GE405.out) | exact HB.out)⟩
        ·rw [if_neg c19] at H
         exact absurd H (by simp)
       ·rw [if_neg c18] at H
        have c18b0 : decide (t409 ≤ (a2.size : Int)) = false := decide_eq_false c18
        clear c18
        obtain rfl := Option.some.inj H
        have hcz25_0 : wc.cell? ⟨gb405, 0, none⟩ = some (.int .i64 a1_0) := (blk_cell BK405.out 0).trans rfl
        have hcz25_1 : wc.cell? ⟨gb405, 1, none⟩ = some (.int .i64 a1_1) := (blk_cell BK405.out 1).trans rfl
        have hcz25_2 : wc.cell? ⟨gb405, 2, none⟩ = some (.int .i64 a1_2) := (blk_cell BK405.out 2).trans rfl
        have hcz25_3 : wc.cell? ⟨gb405, 3, none⟩ = some (.int .i64 a1_3) := (blk_cell BK405.out 3).trans rfl
        have hcz25_4 : wc.cell? ⟨gb405, 4, none⟩ = some (.int .i64 a1_4) := (blk_cell BK405.out 4).trans rfl
        have hfz25_0 := blk_frozen BK405.out 0
        have hfz25_1 := blk_frozen BK405.out 1
        have hfz25_2 := blk_frozen BK405.out 2
        have hfz25_3 := blk_frozen BK405.out 3
        have hfz25_4 := blk_frozen BK405.out 4
        go_wp2_with (first | ((with_reducible refine gate_callee (f := 23) rfl ?_); refine goesL_ (some 24) rfl rfl Try.func23 (by kernel_rfl) rfl #[.int .i64 a0, .agg #[.int .i64 a1_0, .int .i64 a1_1, .int .i64 a1_2, .int .i64 a1_3, .int .i64 a1_4], .string a2, .int .i64 0] rfl (by (try simp only [List.map_toArray, List.map_cons, List.map_nil]); first | done | rfl | (simp only [List.length_drop, List.length_take]; rfl)) ?_; (with_reducible refine (cell_Get.calls kj3 a0 a1_0 a1_1 a1_2 a1_3 a1_4 a2 0 t408 t409 t410 _ A13.out).mono ?_); rintro e w26 ⟨rfl, hb⟩; refine ⟨_, rfl, ?_⟩; have n0_ := Aside0.mk (blk_below (g := gb405) (o := .cells #[.int .i64 a1_0, .int .i64 a1_1, .int .i64 a1_2, .int .i64 a1_3, .int .i64 a1_4] 23 (0, 0)) (by (with_reducible repeat (first | refine blk_drewN ?_ _ | refine blk_drew ?_ | refine blk_alloc ?_ _)); exact BK405.out) hb); have n1_ := Aside0.mk (below_step (by repeat (first | (with_reducible first | exact HB.out | apply below_alloc | apply pw_below_drewN | apply below_drew1 | refine below_set ?_ GE405.out) | exact HB.out)) hb); clear BK405; clear HB; have BK405 := n0_; have HB := n1_; clear n0_ n1_; (try clear hb); (try clear hb2); (try clear hk); (try clear hi); have hcz27_0 : w26.cell? ⟨gb405, 0, none⟩ = some (.int .i64 a1_0) := (blk_cell BK405.out 0).trans rfl; have hcz27_1 : w26.cell? ⟨gb405, 1, none⟩ = some (.int .i64 a1_1) := (blk_cell BK405.out 1).trans rfl; have hcz27_2 : w26.cell? ⟨gb405, 2, none⟩ = some (.int .i64 a1_2) := (blk_cell BK405.out 2).trans rfl; have hcz27_3 : w26.cell? ⟨gb405, 3, none⟩ = some (.int .i64 a1_3) := (blk_cell BK405.out 3).trans rfl; have hcz27_4 : w26.cell? ⟨gb405, 4, none⟩ = some (.int .i64 a1_4) := (blk_cell BK405.out 4).trans rfl; have hfz27_0 := blk_frozen BK405.out 0; have hfz27_1 := blk_frozen BK405.out 1; have hfz27_2 := blk_frozen BK405.out 2; have hfz27_3 := blk_frozen BK405.out 3; have hfz27_4 := blk_frozen BK405.out 4) | ((with_reducible refine gate_callee (f := 21) rfl ?_); refine goesL_ (some 40) rfl rfl Try.func21 (by kernel_rfl) rfl #[.int .i64 a0, .agg #[.int .i64 a1_0, .int .i64 a1_1, .int .i64 a1_2, .int .i64 a1_3, .int .i64 a1_4], .string t408] rfl (by (try simp only [List.map_toArray, List.map_cons, List.map_nil]); first | done | rfl | (simp only [List.length_drop, List.length_take]; rfl)) ?_; (with_reducible refine (cell_Put.calls kj3 a0 a1_0 a1_1 a1_2 a1_3 a1_4 t408 t411 t412 _ A15.out).mono ?_); rintro e w28 ⟨rfl, hb⟩; refine ⟨_, rfl, ?_⟩; have n0_ := Aside0.mk (blk_below (g := gb405) (o := .cells #[.int .i64 a1_0, .int .i64 a1_1, .int .i64 a1_2, .int .i64 a1_3, .int .i64 a1_4] 23 (0, 0)) (by (with_reducible repeat (first | refine blk_drewN ?_ _ | refine blk_drew ?_ | refine blk_alloc ?_ _)); exact BK405.out) hb); have n1_ := Aside0.mk (below_step (by repeat (first | (with_reducible first | exact HB.out | apply below_alloc | apply pw_below_drewN | apply below_drew1 | refine below_set ?_ GE405.out) | exact HB.out)) hb); clear BK405; clear HB; have BK405 := n0_; have HB := n1_; clear n0_ n1_; (try clear hb); (try clear hb2); (try clear hk); (try clear hi)))
        go_ret
        exact ⟨by first | rfl | (simp [errW_none, errW_some] <;> rfl) | (simp [*, errW_none, errW_some] <;> rfl), by repeat (first | (with_reducible first | exact HB.out | apply below_alloc | apply pw_below_drewN | apply below_drew1 | refine below_set ?_ GE405.out) | exact HB.out)⟩
      ·rw [if_neg c17] at H
       have c17b0 : decide (0 ≤ t409) = false := decide_eq_false c17
       clear c17
       obtain rfl := Option.some.inj H
       have hcz29_0 : wc.cell? ⟨gb405, 0, none⟩ = some (.int .i64 a1_0) := (blk_cell BK405.out 0).trans rfl
       have hcz29_1 : wc.cell? ⟨gb405, 1, none⟩ = some (.int .i64 a1_1) := (blk_cell BK405.out 1).trans rfl
       have hcz29_2 : wc.cell? ⟨gb405, 2, none⟩ = some (.int .i64 a1_2) := (blk_cell BK405.out 2).trans rfl
       have hcz29_3 : wc.cell? ⟨gb405, 3, none⟩ = some (.int .i64 a1_3) := (blk_cell BK405.out 3).trans rfl
       have hcz29_4 : wc.cell? ⟨gb405, 4, none⟩ = some (.int .i64 a1_4) := (blk_cell BK405.out 4).trans rfl
       have hfz29_0 := blk_frozen BK405.out 0
       have hfz29_1 := blk_frozen BK405.out 1
       have hfz29_2 := blk_frozen BK405.out 2
       have hfz29_3 := blk_frozen BK405.out 3
       have hfz29_4 := blk_frozen BK405.out 4
       go_wp2_with (first | ((with_reducible refine gate_callee (f := 23) rfl ?_); refine goesL_ (some 24) rfl rfl Try.func23 (by kernel_rfl) rfl #[.int .i64 a0, .agg #[.int .i64 a1_0, .int .i64 a1_1, .int .i64 a1_2, .int .i64 a1_3, .int .i64 a1_4], .string a2, .int .i64 0] rfl (by (try simp only [List.map_toArray, List.map_cons, List.map_nil]); first | done | rfl | (simp only [List.length_drop, List.length_take]; rfl)) ?_; (with_reducible refine (cell_Get.calls kj3 a0 a1_0 a1_1 a1_2 a1_3 a1_4 a2 0 t408 t409 t410 _ A13.out).mono ?_); rintro e w30 ⟨rfl, hb⟩; refine ⟨_, rfl, ?_⟩; have n0_ := Aside0.mk (blk_below (g := gb405) (o := .cells #[.int .i64 a1_0, .int .i64 a1_1, .int .i64 a1_2, .int .i64 a1_3, .int .i64 a1_4] 23 (0, 0)) (by (with_reducible repeat (first | refine blk_drewN ?_ _ | refine blk_drew ?_ | refine blk_alloc ?_ _)); exact BK405.out) hb); have n1_ := Aside0.mk (below_step (by repeat (first | (with_reducible first | exact HB.out | apply below_alloc | apply pw_below_drewN | apply below_drew1 | refine below_set ?_ GE405.out) | exact HB.out)) hb); clear BK405; clear HB; have BK405 := n0_; have HB := n1_; clear n0_ n1_; (try clear hb); (try clear hb2); (try clear hk); (try clear hi); have hcz31_0 : w30.cell? ⟨gb405, 0, none⟩ = some (.int .i64 a1_0) := (blk_cell BK405.out 0).trans rfl; have hcz31_1 : w30.cell? ⟨gb405, 1, none⟩ = some (.int .i64 a1_1) := (blk_cell BK405.out 1).trans rfl; have hcz31_2 : w30.cell? ⟨gb405, 2, none⟩ = some (.int .i64 a1_2) := (blk_cell BK405.out 2).trans rfl; have hcz31_3 : w30.cell? ⟨gb405, 3, none⟩ = some (.int .i64 a1_3) := (blk_cell BK405.out 3).trans rfl; have hcz31_4 : w30.cell? ⟨gb405, 4, none⟩ = some (.int .i64 a1_4) := (blk_cell BK405.out 4).trans rfl; have hfz31_0 := blk_frozen BK405.out 0; have hfz31_1 := blk_frozen BK405.out 1; have hfz31_2 := blk_frozen BK405.out 2; have hfz31_3 := blk_frozen BK405.out 3; have hfz31_4 := blk_frozen BK405.out 4) | ((with_reducible refine gate_callee (f := 21) rfl ?_); refine goesL_ (some 40) rfl rfl Try.func21 (by kernel_rfl) rfl #[.int .i64 a0, .agg #[.int .i64 a1_0, .int .i64 a1_1, .int .i64 a1_2, .int .i64 a1_3, .int .i64 a1_4], .string t408] rfl (by (try simp only [List.map_toArray, List.map_cons, List.map_nil]); first | done | rfl | (simp only [List.length_drop, List.length_take]; rfl)) ?_; (with_reducible refine (cell_Put.calls kj3 a0 a1_0 a1_1 a1_2 a1_3 a1_4 t408 t411 t412 _ A15.out).mono ?_); rintro e w32 ⟨rfl, hb⟩; refine ⟨_, rfl, ?_⟩; have n0_ := Aside0.mk (blk_below (g := gb405) (o := .cells #[.int .i64 a1_0, .int .i64 a1_1, .int .i64 a1_2, .int .i64 a1_3, .int .i64 a1_4] 23 (0, 0)) (by (with_reducible repeat (first | refine blk_drewN ?_ _ | refine blk_drew ?_ | refine blk_alloc ?_ _)); exact BK405.out) hb); have n1_ := Aside0.mk (below_step (by repeat (first | (with_reducible first | exact HB.out | apply below_alloc | apply pw_below_drewN | apply below_drew1 | refine below_set ?_ GE405.out) | exact HB.out)) hb); clear BK405; clear HB; have BK405 := n0_; have HB := n1_; clear n0_ n1_; (try clear hb); (try clear hb2); (try clear hk); (try clear hi)))
       go_ret
       exact ⟨by first | rfl | (simp [errW_none, errW_some] <;> rfl) | (simp [*, errW_none, errW_some] <;> rfl), by repeat (first | (with_reducible first | exact HB.out | apply below_alloc | apply pw_below_drewN | apply below_drew1 | refine below_set ?_ GE405.out) | exact HB.out)⟩
     ·rw [if_neg c16] at H
      have c16b0 : (t412 == 0) = false := beq_eq_false_iff_ne.mpr c16
      have c16b1 : (t412 != 0) = true := bne_iff_ne.mpr c16
      obtain rfl := Option.some.inj H
      have hcz33_0 : wc.cell? ⟨gb405, 0, none⟩ = some (.int .i64 a1_0) := (blk_cell BK405.out 0).trans rfl
      have hcz33_1 : wc.cell? ⟨gb405, 1, none⟩ = some (.int .i64 a1_1) := (blk_cell BK405.out 1).trans rfl
      have hcz33_2 : wc.cell? ⟨gb405, 2, none⟩ = some (.int .i64 a1_2) := (blk_cell BK405.out 2).trans rfl
      have hcz33_3 : wc.cell? ⟨gb405, 3, none⟩ = some (.int .i64 a1_3) := (blk_cell BK405.out 3).trans rfl
      have hcz33_4 : wc.cell? ⟨gb405, 4, none⟩ = some (.int .i64 a1_4) := (blk_cell BK405.out 4).trans rfl
      have hfz33_0 := blk_frozen BK405.out 0
      have hfz33_1 := blk_frozen BK405.out 1
      have hfz33_2 := blk_frozen BK405.out 2
      have hfz33_3 := blk_frozen BK405.out 3
      have hfz33_4 := blk_frozen BK405.out 4
      go_wp2_with (first | ((with_reducible refine gate_callee (f := 23) rfl ?_); refine goesL_ (some 24) rfl rfl Try.func23 (by kernel_rfl) rfl #[.int .i64 a0, .agg #[.int .i64 a1_0, .int .i64 a1_1, .int .i64 a1_2, .int .i64 a1_3, .int .i64 a1_4], .string a2, .int .i64 0] rfl (by (try simp only [List.map_toArray, List.map_cons, List.map_nil]); first | done | rfl | (simp only [List.length_drop, List.length_take]; rfl)) ?_; (with_reducible refine (cell_Get.calls kj3 a0 a1_0 a1_1 a1_2 a1_3 a1_4 a2 0 t408 t409 t410 _ A13.out).mono ?_); rintro e w34 ⟨rfl, hb⟩; refine ⟨_, rfl, ?_⟩; have n0_ := Aside0.mk (blk_below (g := gb405) (o := .cells #[.int .i64 a1_0, .int .i64 a1_1, .int .i64 a1_2, .int .i64 a1_3, .int .i64 a1_4] 23 (0, 0)) (by (with_reducible repeat (first | refine blk_drewN ?_ _ | refine blk_drew ?_ | refine blk_alloc ?_ _)); exact BK405.out) hb); have n1_ := Aside0.mk (below_step (by repeat (first | (with_reducible first | exact HB.out | apply below_alloc | apply pw_below_drewN | apply below_drew1 | refine below_set ?_ GE405.out) | exact HB.out)) hb); clear BK405; clear HB; have BK405 := n0_; have HB := n1_; clear n0_ n1_; (try clear hb); (try clear hb2); (try clear hk); (try clear hi); have hcz35_0 : w34.cell? ⟨gb405, 0, none⟩ = some (.int .i64 a1_0) := (blk_cell BK405.out 0).trans rfl; have hcz35_1 : w34.cell? ⟨gb405, 1, none⟩ = some (.int .i64 a1_1) := (blk_cell BK405.out 1).trans rfl; have hcz35_2 : w34.cell? ⟨gb405, 2, none⟩ = some (.int .i64 a1_2) := (blk_cell BK405.out 2).trans rfl; have hcz35_3 : w34.cell? ⟨gb405, 3, none⟩ = some (.int .i64 a1_3) := (blk_cell BK405.out 3).trans rfl; have hcz35_4 : w34.cell? ⟨gb405, 4, none⟩ = some (.int .i64 a1_4) := (blk_cell BK405.out 4).trans rfl; have hfz35_0 := blk_frozen BK405.out 0; have hfz35_1 := blk_frozen BK405.out 1; have hfz35_2 := blk_frozen BK405.out 2; have hfz35_3 := blk_frozen BK405.out 3; have hfz35_4 := blk_frozen BK405.out 4) | ((with_reducible refine gate_callee (f := 21) rfl ?_); refine goesL_ (some 40) rfl rfl Try.func21 (by kernel_rfl) rfl #[.int .i64 a0, .agg #[.int .i64 a1_0, .int .i64 a1_1, .int .i64 a1_2, .int .i64 a1_3, .int .i64 a1_4], .string t408] rfl (by (try simp only [List.map_toArray, List.map_cons, List.map_nil]); first | done | rfl | (simp only [List.length_drop, List.length_take]; rfl)) ?_; (with_reducible refine (cell_Put.calls kj3 a0 a1_0 a1_1 a1_2 a1_3 a1_4 t408 t411 t412 _ A15.out).mono ?_); rintro e w36 ⟨rfl, hb⟩; refine ⟨_, rfl, ?_⟩; have n0_ := Aside0.mk (blk_below (g := gb405) (o := .cells #[.int .i64 a1_0, .int .i64 a1_1, .int .i64 a1_2, .int .i64 a1_3, .int .i64 a1_4] 23 (0, 0)) (by (with_reducible repeat (first | refine blk_drewN ?_ _ | refine blk_drew ?_ | refine blk_alloc ?_ _)); exact BK405.out) hb); have n1_ := Aside0.mk (below_step (by repeat (first | (with_reducible first | exact HB.out | apply below_alloc | apply pw_below_drewN | apply below_drew1 | refine below_set ?_ GE405.out) | exact HB.out)) hb); clear BK405; clear HB; have BK405 := n0_; have HB := n1_; clear n0_ n1_; (try clear hb); (try clear hb2); (try clear hk); (try clear hi)))
      go_ret
      exact ⟨by first | rfl | (simp [errW_none, errW_some] <;> rfl) | (simp [*, errW_none, errW_some] <;> rfl), by repeat (first | (with_reducible first | exact HB.out | apply below_alloc | apply pw_below_drewN | apply below_drew1 | refine below_set ?_ GE405.out) | exact HB.out)⟩
    ·rw [if_neg c14] at H
     have c14b0 : (t410 == 0) = false := beq_eq_false_iff_ne.mpr c14
     have c14b1 : (t410 != 0) = true := bne_iff_ne.mpr c14
     by_cases c37 : t408.toList = ([] : List UInt8)
     ·rw [if_pos c37] at H
      have c37b0 : (t408.toList == ([] : List UInt8)) = true := beq_iff_eq.mpr c37
      have c37b1 : (t408.toList != ([] : List UInt8)) = false := bne_eq_false_iff_eq.mpr c37
      clear c37
      obtain rfl := Option.some.inj H
      have hcz38_0 : wc.cell? ⟨gb405, 0, none⟩ = some (.int .i64 a1_0) := (blk_cell BK405.out 0).trans rfl
      have hcz38_1 : wc.cell? ⟨gb405, 1, none⟩ = some (.int .i64 a1_1) := (blk_cell BK405.out 1).trans rfl
      have hcz38_2 : wc.cell? ⟨gb405, 2, none⟩ = some (.int .i64 a1_2) := (blk_cell BK405.out 2).trans rfl
      have hcz38_3 : wc.cell? ⟨gb405, 3, none⟩ = some (.int .i64 a1_3) := (blk_cell BK405.out 3).trans rfl
      have hcz38_4 : wc.cell? ⟨gb405, 4, none⟩ = some (.int .i64 a1_4) := (blk_cell BK405.out 4).trans rfl
      have hfz38_0 := blk_frozen BK405.out 0
      have hfz38_1 := blk_frozen BK405.out 1
      have hfz38_2 := blk_frozen BK405.out 2
      have hfz38_3 := blk_frozen BK405.out 3
      have hfz38_4 := blk_frozen BK405.out 4
      go_wp2_with (first | ((with_reducible refine gate_callee (f := 23) rfl ?_); refine goesL_ (some 24) rfl rfl Try.func23 (by kernel_rfl) rfl #[.int .i64 a0, .agg #[.int .i64 a1_0, .int .i64 a1_1, .int .i64 a1_2, .int .i64 a1_3, .int .i64 a1_4], .string a2, .int .i64 0] rfl (by (try simp only [List.map_toArray, List.map_cons, List.map_nil]); first | done | rfl | (simp only [List.length_drop, List.length_take]; rfl)) ?_; (with_reducible refine (cell_Get.calls kj3 a0 a1_0 a1_1 a1_2 a1_3 a1_4 a2 0 t408 t409 t410 _ A13.out).mono ?_); rintro e w39 ⟨rfl, hb⟩; refine ⟨_, rfl, ?_⟩; have n0_ := Aside0.mk (blk_below (g := gb405) (o := .cells #[.int .i64 a1_0, .int .i64 a1_1, .int .i64 a1_2, .int .i64 a1_3, .int .i64 a1_4] 23 (0, 0)) (by (with_reducible repeat (first | refine blk_drewN ?_ _ | refine blk_drew ?_ | refine blk_alloc ?_ _)); exact BK405.out) hb); have n1_ := Aside0.mk (below_step (by repeat (first | (with_reducible first | exact HB.out | apply below_alloc | apply pw_below_drewN | apply below_drew1 | refine below_set ?_ GE405.out) | exact HB.out)) hb); clear BK405; clear HB; have BK405 := n0_; have HB := n1_; clear n0_ n1_; (try clear hb); (try clear hb2); (try clear hk); (try clear hi)))
      go_ret
      exact ⟨by first | rfl | (simp [errW_none, errW_some] <;> rfl) | (simp [*, errW_none, errW_some] <;> rfl), by repeat (first | (with_reducible first | exact HB.out | apply below_alloc | apply pw_below_drewN | apply below_drew1 | refine below_set ?_ GE405.out) | exact HB.out)⟩
     ·rw [if_neg c37] at H
      have c37b0 : (t408.toList == ([] : List UInt8)) = false := beq_eq_false_iff_ne.mpr c37
      have c37b1 : (t408.toList != ([] : List UInt8)) = true := bne_iff_ne.mpr c37
      obtain rfl := Option.some.inj H
      have hcz40_0 : wc.cell? ⟨gb405, 0, none⟩ = some (.int .i64 a1_0) := (blk_cell BK405.out 0).trans rfl
      have hcz40_1 : wc.cell? ⟨gb405, 1, none⟩ = some (.int .i64 a1_1) := (blk_cell BK405.out 1).trans rfl
      have hcz40_2 : wc.cell? ⟨gb405, 2, none⟩ = some (.int .i64 a1_2) := (blk_cell BK405.out 2).trans rfl
      have hcz40_3 : wc.cell? ⟨gb405, 3, none⟩ = some (.int .i64 a1_3) := (blk_cell BK405.out 3).trans rfl
      have hcz40_4 : wc.cell? ⟨gb405, 4, none⟩ = some (.int .i64 a1_4) := (blk_cell BK405.out 4).trans rfl
      have hfz40_0 := blk_frozen BK405.out 0
      have hfz40_1 := blk_frozen BK405.out 1
      have hfz40_2 := blk_frozen BK405.out 2
      have hfz40_3 := blk_frozen BK405.out 3
      have hfz40_4 := blk_frozen BK405.out 4
      go_wp2_with (first | ((with_reducible refine gate_callee (f := 23) rfl ?_); refine goesL_ (some 24) rfl rfl Try.func23 (by kernel_rfl) rfl #[.int .i64 a0, .agg #[.int .i64 a1_0, .int .i64 a1_1, .int .i64 a1_2, .int .i64 a1_3, .int .i64 a1_4], .string a2, .int .i64 0] rfl (by (try simp only [List.map_toArray, List.map_cons, List.map_nil]); first | done | rfl | (simp only [List.length_drop, List.length_take]; rfl)) ?_; (with_reducible refine (cell_Get.calls kj3 a0 a1_0 a1_1 a1_2 a1_3 a1_4 a2 0 t408 t409 t410 _ A13.out).mono ?_); rintro e w41 ⟨rfl, hb⟩; refine ⟨_, rfl, ?_⟩; have n0_ := Aside0.mk (blk_below (g := gb405) (o := .cells #[.int .i64 a1_0, .int .i64 a1_1, .int .i64 a1_2, .int .i64 a1_3, .int .i64 a1_4] 23 (0, 0)) (by (with_reducible repeat (first | refine blk_drewN ?_ _ | refine blk_drew ?_ | refine blk_alloc ?_ _)); exact BK405.out) hb); have n1_ := Aside0.mk (below_step (by repeat (first | (with_reducible first | exact HB.out | apply below_alloc | apply pw_below_drewN | apply below_drew1 | refine below_set ?_ GE405.out) | exact HB.out)) hb); clear BK405; clear HB; have BK405 := n0_; have HB := n1_; clear n0_ n1_; (try clear hb); (try clear hb2); (try clear hk); (try clear hi)))
      go_ret
      exact ⟨by first | rfl | (simp [errW_none, errW_some] <;> rfl) | (simp [*, errW_none, errW_some] <;> rfl), by repeat (first | (with_reducible first | exact HB.out | apply below_alloc | apply pw_below_drewN | apply below_drew1 | refine below_set ?_ GE405.out) | exact HB.out)⟩

/-- THE ONE PURE STATEMENT of groatlaw12_CellOne. -/
def groatlaw12_CellOne.Pure : Prop := ∀ (x0 : Int) (x1 : S23) (x2 : ByteArray), (Lit.int .i64 x0).wf = true → Q23 x1 → x2.size ≤ 140737488351232 → ∃ k, groatlaw12_CellOne.f k x0 x1.f0 x1.f1 x1.f2 x1.f3 x1.f4 x2 = some true

end Go.Proofs.Ytfaeodcapagjbaa.P
