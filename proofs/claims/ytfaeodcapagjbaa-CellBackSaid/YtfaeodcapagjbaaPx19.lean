-- written for this claim by wip/pp.py
import Derived.Test.YtfaeodcapagjbaaPx0
import Derived.Test.YtfaeodcapagjbaaPx6
import Derived.Test.YtfaeodcapagjbaaPx8
import Derived.Test.YtfaeodcapagjbaaPx9
namespace Go.Proofs.Ytfaeodcapagjbaa.P
open Go.RowKit Go.Proofs.YtfaeodcapagjbaaW.PrintWords Go.Proofs.YtfaeodcapagjbaaW.PrintLast Go.Proofs.YtfaeodcapagjbaaW.PrintMore
attribute [local go_sem] max2_int min2_int max_two min_two max_three min_three max_four min_four   -- for this text's walks alone
set_option linter.unusedVariables false
set_option linter.unusedSimpArgs false

/-! ### groatlaw12_CellBack: function 10 -/
def groatlaw12_CellBack.j0 : Nat → Int → ByteArray → Bool → Int → Int → Int → Int → Int → Option (Bool)
 | 0, _, _, _, _, _, _, _, _ => none
 | k + 1, x0, x2, x18, x398000, x398001, x398002, x398003, x398004 => if x18 = true then ((groatlaw12_awake.f k).bind fun t399 => (some t399)) else ((cell_Put.f k x0 x398000 x398001 x398002 x398003 x398004 x2).bind fun bt400 => (if bt400.2 = 0 then ((cell_Get.f k x0 x398000 x398001 x398002 x398003 x398004 bt400.1 0).bind fun bt402 => (if bt402.1.toList = x2.toList then (if bt402.2.1 = (bt400.1.size : Int) then (some (bt402.2.2 == 0)) else (some false)) else (some false))) else (some (bt400.1.toList == ([] : List UInt8)))))
def groatlaw12_CellBack.f (k : Nat) (a0 : Int) (a1_0 : Int) (a1_1 : Int) (a1_2 : Int) (a1_3 : Int) (a1_4 : Int) (a2 : ByteArray) : Option (Bool) := (groatlaw12_awake.f k).bind fun t398 => (if t398 = true then (groatlaw12_CellBack.j0 k a0 a2 (decide ((a2.size : Int) > 999)) a1_0 a1_1 a1_2 a1_3 a1_4) else (groatlaw12_CellBack.j0 k a0 a2 true a1_0 a1_1 a1_2 a1_3 a1_4))
theorem groatlaw12_CellBack.mono_l : ∀ k, (∀ y0 y1 y2 y3 y4 y5 y6 y7, LeO (groatlaw12_CellBack.j0 k y0 y1 y2 y3 y4 y5 y6 y7) (groatlaw12_CellBack.j0 (k + 1) y0 y1 y2 y3 y4 y5 y6 y7))
 | 0 => fun _ _ _ _ _ _ _ _ r h => by simp [groatlaw12_CellBack.j0] at h
 | k + 1 => by
  have ih0 := groatlaw12_CellBack.mono_l k
  ·intro y0 y1 y2 y3 y4 y5 y6 y7
   unfold groatlaw12_CellBack.j0
   repeat' first
   | (with_reducible exact ih0 _ _ _ _ _ _ _ _)
   | (with_reducible exact cell_Get.mono _ _ _ _ _ _ _ _ _)
   | (with_reducible exact cell_Put.mono _ _ _ _ _ _ _ _)
   | (with_reducible exact groatlaw12_awake.mono _)
   | (with_reducible exact LeO.refl _)
   | (with_reducible exact LeO.none _)
   | (with_reducible refine LeO.ite ?_ ?_)
   | (with_reducible refine LeO.bind ?_ (fun _ => ?_))
   | exact ih0 _ _ _ _ _ _ _ _
   | exact cell_Get.mono _ _ _ _ _ _ _ _ _
   | exact cell_Put.mono _ _ _ _ _ _ _ _
   | exact groatlaw12_awake.mono _
   | exact LeO.none _
   | refine LeO.ite ?_ ?_
   | refine LeO.bind ?_ (fun _ => ?_)
theorem groatlaw12_CellBack.mono : ∀ a0 a1 a2 a3 a4 a5 a6 k, LeO (groatlaw12_CellBack.f k a0 a1 a2 a3 a4 a5 a6) (groatlaw12_CellBack.f (k + 1) a0 a1 a2 a3 a4 a5 a6) := by
 intro a0 a1 a2 a3 a4 a5 a6 k
 have ih0 := groatlaw12_CellBack.mono_l k
 unfold groatlaw12_CellBack.f
 repeat' first
   | (with_reducible exact ih0 _ _ _ _ _ _ _ _)
   | (with_reducible exact cell_Get.mono _ _ _ _ _ _ _ _ _)
   | (with_reducible exact cell_Put.mono _ _ _ _ _ _ _ _)
   | (with_reducible exact groatlaw12_awake.mono _)
   | (with_reducible exact LeO.refl _)
   | (with_reducible exact LeO.none _)
   | (with_reducible refine LeO.ite ?_ ?_)
   | (with_reducible refine LeO.bind ?_ (fun _ => ?_))
   | exact ih0 _ _ _ _ _ _ _ _
   | exact cell_Get.mono _ _ _ _ _ _ _ _ _
   | exact cell_Put.mono _ _ _ _ _ _ _ _
   | exact groatlaw12_awake.mono _
   | exact LeO.none _
   | refine LeO.ite ?_ ?_
   | refine LeO.bind ?_ (fun _ => ?_)
set_option maxHeartbeats 8000000 in
set_option maxRecDepth 100000 in
theorem groatlaw12_CellBack.calls (k : Nat) (a0 : Int) (a1_0 : Int) (a1_1 : Int) (a1_2 : Int) (a1_3 : Int) (a1_4 : Int) (a2 : ByteArray) (r : Bool) (w : World) (h : groatlaw12_CellBack.f k a0 a1_0 a1_1 a1_2 a1_3 a1_4 a2 = some r) :
  Calls Try.prog 10 #[.int .i64 a0, .agg #[.int .i64 a1_0, .int .i64 a1_1, .int .i64 a1_2, .int .i64 a1_3, .int .i64 a1_4], .string a2] w fun e w' => e = .returned (.bool r) ∧ Below w.heap.size w w' := by
 have hu23 := Try.underlying23
 have HB := Aside0.mk (Below.refl w.heap.size w)
 have H : ((groatlaw12_awake.f k).bind fun t398 => (if t398 = true then (groatlaw12_CellBack.j0 k a0 a2 (decide ((a2.size : Int) > 999)) a1_0 a1_1 a1_2 a1_3 a1_4) else (groatlaw12_CellBack.j0 k a0 a2 true a1_0 a1_1 a1_2 a1_3 a1_4))) = some r := h
 clear h
 have HC4 := Aside0.mk H
 clear H
 go_enter Try.func10, Try.ntmps10
 go_upto_region 1 with (first | ((with_reducible refine gate_dst (N := 4) rfl ?_); refine box_event ?hg (N := 4) ?hd (cs := #[.int .i64 a1_0, .int .i64 a1_1, .int .i64 a1_2, .int .i64 a1_3, .int .i64 a1_4]) (t := 23) ?hr ?_; (case hd => rfl); (case hg => rfl); (case hr => first | (go_simp; done) | (go_simp; rfl) | (have hu8_ := IntKind.wrap_u8; go_simp; done) | (have hu8_ := IntKind.wrap_u8; go_simp; rfl) | (go_simp; simp [IntKind.wrap_u8]; done)); intro gb397 hg w5 hbox hb; have n0_ := Aside0.mk (below_step (by repeat (first | (with_reducible first | exact HB.out | apply below_alloc | apply pw_below_drewN | apply below_drew1) | exact HB.out)) hb); have n1_ := Aside0.mk (hbox); have n2_ := Aside0.mk ((by rw [hg]; exact (below_size (by repeat (first | (with_reducible first | exact HB.out | apply below_alloc | apply pw_below_drewN | apply below_drew1) | exact HB.out))) : w.heap.size ≤ gb397)); have n3_ := Aside0.mk ((by rw [hg]; exact (below_size (by repeat (first | (with_reducible first | exact HB.out | apply below_alloc | apply pw_below_drewN | apply below_drew1) | exact HB.out))) : w.heap.size ≤ gb397)); clear HB; have HB := n0_; have BK397 := n1_; have GW397 := n2_; have GE397 := n3_; clear n0_ n1_ n2_ n3_; clear hb hbox hg))
 (try simp only [Act.put, List.setIfInBounds_toArray, List.set_cons_zero, List.set_cons_succ])
 go_cut [18] (fun v18 wc => ∃ (kq : Nat) (x18_3 : Bool), v18 = .bool x18_3 ∧ Aside0 (groatlaw12_CellBack.j0 kq a0 a2 x18_3 a1_0 a1_1 a1_2 a1_3 a1_4 = some r) ∧ Aside0 (kq ≤ k) ∧ Aside0 (wc.heap[gb397]? = some (.cells #[.int .i64 a1_0, .int .i64 a1_1, .int .i64 a1_2, .int .i64 a1_3, .int .i64 a1_4] 23 (0, 0))) ∧ Aside0 (Below w.heap.size w wc))
 case first =>
  have H := HC4.out
  clear HC4
  replace H := Option.bind_eq_some_iff.mp H
  obtain ⟨t398, A60, H⟩ := H
  replace H : (if t398 = true then (groatlaw12_CellBack.j0 k a0 a2 (decide ((a2.size : Int) > 999)) a1_0 a1_1 a1_2 a1_3 a1_4) else (groatlaw12_CellBack.j0 k a0 a2 true a1_0 a1_1 a1_2 a1_3 a1_4)) = some r := H
  have A6 := Aside0.mk A60
  clear A60
  by_cases c7 : t398 = true
  ·subst c7
   have H1 : (groatlaw12_CellBack.j0 k a0 a2 (decide ((a2.size : Int) > 999)) a1_0 a1_1 a1_2 a1_3 a1_4) = some r := by rw [if_pos rfl] at H; exact H
   clear H
   have H := H1
   clear H1
   have H' := Aside0.mk H
   clear H
   go_wp2_with (first | ((with_reducible refine gate_callee (f := 20) rfl ?_); refine goesL_ (some 12) rfl rfl Try.func20 (by kernel_rfl) rfl #[] rfl (by (try simp only [List.map_toArray, List.map_cons, List.map_nil]); first | done | rfl | (simp only [List.length_drop, List.length_take]; rfl)) ?_; (with_reducible refine (groatlaw12_awake.calls k  true _ A6.out).mono ?_); rintro e w8 ⟨rfl, hb⟩; refine ⟨_, rfl, ?_⟩; have n0_ := Aside0.mk (blk_below (g := gb397) (o := .cells #[.int .i64 a1_0, .int .i64 a1_1, .int .i64 a1_2, .int .i64 a1_3, .int .i64 a1_4] 23 (0, 0)) (by (with_reducible repeat (first | refine blk_drewN ?_ _ | refine blk_drew ?_ | refine blk_alloc ?_ _)); exact BK397.out) hb); have n1_ := Aside0.mk (below_step (by repeat (first | (with_reducible first | exact HB.out | apply below_alloc | apply pw_below_drewN | apply below_drew1 | refine below_set ?_ GE397.out) | exact HB.out)) hb); clear BK397; clear HB; have BK397 := n0_; have HB := n1_; clear n0_ n1_; (try clear hb); (try clear hb2); (try clear hk); (try clear hi)))
   go_meet
   case rel => exact ⟨_, (decide ((a2.size : Int) > 999)), (by first | rfl | (simp; done) | (simp [*]; done) | (simp [wrap64]; done)), H', ⟨by first | omega | exact Nat.le_refl _⟩, ⟨by (with_reducible repeat (first | refine blk_drewN ?_ _ | refine blk_drew ?_ | refine blk_alloc ?_ _)); exact BK397.out⟩, ⟨by repeat (first | (with_reducible first | exact HB.out | apply below_alloc | apply pw_below_drewN | apply below_drew1 | refine below_set ?_ GE397.out) | exact HB.out)⟩⟩
  ·replace c7 := Bool.eq_false_iff.mpr c7
   subst c7
   have H1 : (groatlaw12_CellBack.j0 k a0 a2 true a1_0 a1_1 a1_2 a1_3 a1_4) = some r := by rw [if_neg (show ¬ (false = true) by decide)] at H; exact H
   clear H
   have H := H1
   clear H1
   have H' := Aside0.mk H
   clear H
   go_wp2_with (first | ((with_reducible refine gate_callee (f := 20) rfl ?_); refine goesL_ (some 12) rfl rfl Try.func20 (by kernel_rfl) rfl #[] rfl (by (try simp only [List.map_toArray, List.map_cons, List.map_nil]); first | done | rfl | (simp only [List.length_drop, List.length_take]; rfl)) ?_; (with_reducible refine (groatlaw12_awake.calls k  false _ A6.out).mono ?_); rintro e w9 ⟨rfl, hb⟩; refine ⟨_, rfl, ?_⟩; have n0_ := Aside0.mk (blk_below (g := gb397) (o := .cells #[.int .i64 a1_0, .int .i64 a1_1, .int .i64 a1_2, .int .i64 a1_3, .int .i64 a1_4] 23 (0, 0)) (by (with_reducible repeat (first | refine blk_drewN ?_ _ | refine blk_drew ?_ | refine blk_alloc ?_ _)); exact BK397.out) hb); have n1_ := Aside0.mk (below_step (by repeat (first | (with_reducible first | exact HB.out | apply below_alloc | apply pw_below_drewN | apply below_drew1 | refine below_set ?_ GE397.out) | exact HB.out)) hb); clear BK397; clear HB; have BK397 := n0_; have HB := n1_; clear n0_ n1_; (try clear hb); (try clear hb2); (try clear hk); (try clear hi)))
   go_meet
   case rel => exact ⟨_, (true), (by first | rfl | (simp; done) | (simp [*]; done) | (simp [wrap64]; done)), H', ⟨by first | omega | exact Nat.le_refl _⟩, ⟨by (with_reducible repeat (first | refine blk_drewN ?_ _ | refine blk_drew ?_ | refine blk_alloc ?_ _)); exact BK397.out⟩, ⟨by repeat (first | (with_reducible first | exact HB.out | apply below_alloc | apply pw_below_drewN | apply below_drew1 | refine below_set ?_ GE397.out) | exact HB.out)⟩⟩
 case rest =>
  clear HC4
  try clear c1
  try clear c2
  try clear p2
  try clear p6
  try clear c7
  obtain ⟨kq, x18_3, rfl, HA, HJ3, BK397, HB⟩ := hcut
  cases kq with
  | zero => exact absurd HA.out (by simp [groatlaw12_CellBack.j0])
  | succ kj3 =>
   have H := HA.out
   clear HA
   simp only [groatlaw12_CellBack.j0] at H
   by_cases c10 : x18_3 = true
   ·subst c10
    have H1 : ((groatlaw12_awake.f kj3).bind fun t399 => (some t399)) = some r := by rw [if_pos rfl] at H; exact H
    clear H
    have H := H1
    clear H1
    replace H := Option.bind_eq_some_iff.mp H
    obtain ⟨t399, A110, H⟩ := H
    replace H : (some t399) = some r := H
    have A11 := Aside0.mk A110
    clear A110
    obtain rfl := Option.some.inj H
    go_wp2_with (first | ((with_reducible refine gate_callee (f := 20) rfl ?_); refine goesL_ (some 19) rfl rfl Try.func20 (by kernel_rfl) rfl #[] rfl (by (try simp only [List.map_toArray, List.map_cons, List.map_nil]); first | done | rfl | (simp only [List.length_drop, List.length_take]; rfl)) ?_; (with_reducible refine (groatlaw12_awake.calls kj3  t399 _ A11.out).mono ?_); rintro e w12 ⟨rfl, hb⟩; refine ⟨_, rfl, ?_⟩; have n0_ := Aside0.mk (blk_below (g := gb397) (o := .cells #[.int .i64 a1_0, .int .i64 a1_1, .int .i64 a1_2, .int .i64 a1_3, .int .i64 a1_4] 23 (0, 0)) (by (with_reducible repeat (first | refine blk_drewN ?_ _ | refine blk_drew ?_ | refine blk_alloc ?_ _)); exact BK397.out) hb); have n1_ := Aside0.mk (below_step (by repeat (first | (with_reducible first | exact HB.out | apply below_alloc | apply pw_below_drewN | apply below_drew1 | refine below_set ?_ GE397.out) | exact HB.out)) hb); clear BK397; clear HB; have BK397 := n0_; have HB := n1_; clear n0_ n1_; (try clear hb); (try clear hb2); (try clear hk); (try clear hi)))
    go_ret
    exact ⟨by first | rfl | (simp [errW_none, errW_some] <;> rfl) | (simp [*, errW_none, errW_some] <;> rfl), by repeat (first | (with_reducible first | exact HB.out | apply below_alloc | apply pw_below_drewN | apply below_drew1 | refine below_set ?_ GE397.out) | exact HB.out)⟩
   ·replace c10 := Bool.eq_false_iff.mpr c10
    subst c10
    have H1 : ((cell_Put.f kj3 a0 a1_0 a1_1 a1_2 a1_3 a1_4 a2).bind fun bt400 => (if bt400.2 = 0 then ((cell_Get.f kj3 a0 a1_0 a1_1 a1_2 a1_3 a1_4 bt400.1 0).bind fun bt402 => (if bt402.1.toList = a2.toList then (if bt402.2.1 = (bt400.1.size : Int) then (some (bt402.2.2 == 0)) else (some false)) else (some false))) else (some (bt400.1.toList == ([] : List UInt8))))) = some r := by rw [if_neg (show ¬ (false = true) by decide)] at H; exact H
    clear H
    have H := H1
    clear H1
    replace H := Option.bind_eq_some_iff.mp H
    obtain ⟨⟨t400, t401⟩, A130, H⟩ := H
    replace H : (if t401 = 0 then ((cell_Get.f kj3 a0 a1_0 a1_1 a1_2 a1_3 a1_4 t400 0).bind fun bt402 => (if bt402.1.toList = a2.toList then (if bt402.2.1 = (t400.size : Int) then (some (bt402.2.2 == 0)) else (some false)) else (some false))) else (some (t400.toList == ([] : List UInt8)))) = some r := H
    have A13 := Aside0.mk A130
    clear A130
    by_cases c14 : t401 = 0
    ·rw [if_pos c14] at H
     have c14b0 : (t401 == 0) = true := beq_iff_eq.mpr c14
     have c14b1 : (t401 != 0) = false := bne_eq_false_iff_eq.mpr c14
     clear c14
     replace H := Option.bind_eq_some_iff.mp H
     obtain ⟨⟨t402, t403, t404⟩, A150, H⟩ := H
     replace H : (if t402.toList = a2.toList then (if t403 = (t400.size : Int) then (some (t404 == 0)) else (some false)) else (some false)) = some r := H
     have A15 := Aside0.mk A150
     clear A150
     by_cases c16 : t402.toList = a2.toList
     ·rw [if_pos c16] at H
      have c16b0 : (t402.toList == a2.toList) = true := beq_iff_eq.mpr c16
      have c16b1 : (t402.toList != a2.toList) = false := bne_eq_false_iff_eq.mpr c16
      clear c16
      by_cases c17 : t403 = (t400.size : Int)
      ·rw [if_pos c17] at H
       have c17b0 : (t403 == (t400.size : Int)) = true := beq_iff_eq.mpr c17
       have c17b1 : (t403 != (t400.size : Int)) = false := bne_eq_false_iff_eq.mpr c17
       clear c17
       obtain rfl := Option.some.inj H
       have hcz18_0 : wc.cell? ⟨gb397, 0, none⟩ = some (.int .i64 a1_0) := (blk_cell BK397.out 0).trans rfl
       have hcz18_1 : wc.cell? ⟨gb397, 1, none⟩ = some (.int .i64 a1_1) := (blk_cell BK397.out 1).trans rfl
       have hcz18_2 : wc.cell? ⟨gb397, 2, none⟩ = some (.int .i64 a1_2) := (blk_cell BK397.out 2).trans rfl
       have hcz18_3 : wc.cell? ⟨gb397, 3, none⟩ = some (.int .i64 a1_3) := (blk_cell BK397.out 3).trans rfl
       have hcz18_4 : wc.cell? ⟨gb397, 4, none⟩ = some (.int .i64 a1_4) := (blk_cell BK397.out 4).trans rfl
       have hfz18_0 := blk_frozen BK397.out 0
       have hfz18_1 := blk_frozen BK397.out 1
       have hfz18_2 := blk_frozen BK397.out 2
       have hfz18_3 := blk_frozen BK397.out 3
       have hfz18_4 := blk_frozen BK397.out 4
       go_wp2_with (first | ((with_reducible refine gate_callee (f := 21) rfl ?_); refine goesL_ (some 24) rfl rfl Try.func21 (by kernel_rfl) rfl #[.int .i64 a0, .agg #[.int .i64 a1_0, .int .i64 a1_1, .int .i64 a1_2, .int .i64 a1_3, .int .i64 a1_4], .string a2] rfl (by (try simp only [List.map_toArray, List.map_cons, List.map_nil]); first | done | rfl | (simp only [List.length_drop, List.length_take]; rfl)) ?_; (with_reducible refine (cell_Put.calls kj3 a0 a1_0 a1_1 a1_2 a1_3 a1_4 a2 t400 t401 _ A13.out).mono ?_); rintro e w19 ⟨rfl, hb⟩; refine ⟨_, rfl, ?_⟩; have n0_ := Aside0.mk (blk_below (g := gb397) (o := .cells #[.int .i64 a1_0, .int .i64 a1_1, .int .i64 a1_2, .int .i64 a1_3, .int .i64 a1_4] 23 (0, 0)) (by (with_reducible repeat (first | refine blk_drewN ?_ _ | refine blk_drew ?_ | refine blk_alloc ?_ _)); exact BK397.out) hb); have n1_ := Aside0.mk (below_step (by repeat (first | (with_reducible first | exact HB.out | apply below_alloc | apply pw_below_drewN | apply below_drew1 | refine below_set ?_ GE397.out) | exact HB.out)) hb); clear BK397; clear HB; have BK397 := n0_; have HB := n1_; clear n0_ n1_; (try clear hb); (try clear hb2); (try clear hk); (try clear hi); have hcz20_0 : w19.cell? ⟨gb397, 0, none⟩ = some (.int .i64 a1_0) := (blk_cell BK397.out 0).trans rfl; have hcz20_1 : w19.cell? ⟨gb397, 1, none⟩ = some (.int .i64 a1_1) := (blk_cell BK397.out 1).trans rfl; have hcz20_2 : w19.cell? ⟨gb397, 2, none⟩ = some (.int .i64 a1_2) := (blk_cell BK397.out 2).trans rfl; have hcz20_3 : w19.cell? ⟨gb397, 3, none⟩ = some (.int .i64 a1_3) := (blk_cell BK397.out 3).trans rfl; have hcz20_4 : w19.cell? ⟨gb397, 4, none⟩ = some (.int .i64 a1_4) := (blk_cell BK397.out 4).trans rfl; have hfz20_0 := blk_frozen BK397.out 0; have hfz20_1 := blk_frozen BK397.out 1; have hfz20_2 := blk_frozen BK397.out 2; have hfz20_3 := blk_frozen BK397.out 3; have hfz20_4 := blk_frozen BK397.out 4) | ((with_reducible refine gate_callee (f := 23) rfl ?_); refine goesL_ (some 35) rfl rfl Try.func23 (by kernel_rfl) rfl #[.int .i64 a0, .agg #[.int .i64 a1_0, .int .i64 a1_1, .int .i64 a1_2, .int .i64 a1_3, .int .i64 a1_4], .string t400, .int .i64 0] rfl (by (try simp only [List.map_toArray, List.map_cons, List.map_nil]); first | done | rfl | (simp only [List.length_drop, List.length_take]; rfl)) ?_; (with_reducible refine (cell_Get.calls kj3 a0 a1_0 a1_1 a1_2 a1_3 a1_4 t400 0 t402 t403 t404 _ A15.out).mono ?_); rintro e w21 ⟨rfl, hb⟩; refine ⟨_, rfl, ?_⟩; have n0_ := Aside0.mk (blk_below (g := gb397) (o := .cells #[.int .i64 a1_0, .int .i64 a1_1, .int .i64 a1_2, .int .i64 a1_3, .int .i64 a1_4] 23 (0, 0)) (by (with_reducible repeat (first | refine blk_drewN ?_ _ | refine blk_drew ?_ | refine blk_alloc ?_ _)); exact BK397.out) hb); have n1_ := Aside0.mk (below_step (by repeat (first | (with_reducible first | exact HB.out | apply below_alloc | apply pw_below_drewN | apply below_drew1 | refine below_set ?_ GE397.out) | exact HB.out)) hb); clear BK397; clear HB; have BK397 := n0_; have HB := n1_; clear n0_ n1_; (try clear hb); (try clear hb2); (try clear hk); (try clear hi)))
       go_ret
       exact ⟨by first | rfl | (simp [errW_none, errW_some] <;> rfl) | (simp [*, errW_none, errW_some] <;> rfl), by repeat (first | (with_reducible first | exact HB.out | apply below_alloc | apply pw_below_drewN | apply below_drew1 | refine below_set ?_ GE397.out) | exact HB.out)⟩
      ·rw [if_neg c17] at H
       have c17b0 : (t403 == (t400.size : Int)) = false := beq_eq_false_iff_ne.mpr c17
       have c17b1 : (t403 != (t400.size : Int)) = true := bne_iff_ne.mpr c17
       obtain rfl := Option.some.inj H
       have hcz22_0 : wc.cell? ⟨gb397, 0, none⟩ = some (.int .i64 a1_0) := (blk_cell BK397.out 0).trans rfl
       have hcz22_1 : wc.cell? ⟨gb397, 1, none⟩ = some (.int .i64 a1_1) := (blk_cell BK397.out 1).trans rfl
       have hcz22_2 : wc.cell? ⟨gb397, 2, none⟩ = some (.int .i64 a1_2) := (blk_cell BK397.out 2).trans rfl
       have hcz22_3 : wc.cell? ⟨gb397, 3, none⟩ = some (.int .i64 a1_3) := (blk_cell BK397.out 3).trans rfl
       have hcz22_4 : wc.cell? ⟨gb397, 4, none⟩ = some (.int .i64 a1_4) := (blk_cell BK397.out 4).trans rfl
       have hfz22_0 := blk_frozen BK397.out 0
       have hfz22_1 := blk_frozen BK397.out 1
       have hfz22_2 := blk_frozen BK397.out 2
       have hfz22_3 := blk_frozen BK397.out 3
       have hfz22_4 := blk_frozen BK397.out 4
       go_wp2_with (first | ((with_reducible refine gate_callee (f := 21) rfl ?_); refine goesL_ (some 24) rfl rfl Try.func21 (by kernel_rfl) rfl #[.int .i64 a0, .agg #[.int .i64 a1_0, .int .i64 a1_1, .int .i64 a1_2, .int .i64 a1_3, .int .i64 a1_4], .string a2] rfl (by (try simp only [List.map_toArray, List.map_cons, List.map_nil]); first | done | rfl | (simp only [List.length_drop, List.length_take]; rfl)) ?_; (with_reducible refine (cell_Put.calls kj3 a0 a1_0 a1_1 a1_2 a1_3 a1_4 a2 t400 t401 _ A13.out).mono ?_); rintro e w23 ⟨rfl, hb⟩; refine ⟨_, rfl, ?_⟩; have n0_ := Aside0.mk (blk_below (g := gb397) (o := .cells #[.int .i64 a1_0, .int .i64 a1_1, .int .i64 a1_2, .int .i64 a1_3, .int .i64 a1_4] 23 (0, 0)) (by (with_reducible repeat (first | refine blk_drewN ?_ _ | refine blk_drew ?_ | refine blk_alloc ?_ _)); exact BK397.out) hb); have n1_ := Aside0.mk (below_step (by repeat (first | (with_reducible first | exact HB.out | apply below_alloc | apply pw_below_drewN | apply below_drew1 | refine below_set ?_ GE397.out) | exact HB.out)) hb); clear BK397; clear HB; have BK397 := n0_; have HB := n1_; clear n0_ n1_; (try clear hb); (try clear hb2); (try clear hk); (try clear hi); have hcz24_0 : w23.cell? ⟨gb397, 0, none⟩ = some (.int .i64 a1_0) := (blk_cell BK397.out 0).trans rfl; have hcz24_1 : w23.cell? ⟨gb397, 1, none⟩ = some (.int .i64 a1_1) := (blk_cell BK397.out 1).trans rfl; have hcz24_2 : w23.cell? ⟨gb397, 2, none⟩ = some (.int .i64 a1_2) := (blk_cell BK397.out 2).trans rfl; have hcz24_3 : w23.cell? ⟨gb397, 3, none⟩ = some (.int .i64 a1_3) := (blk_cell BK397.out 3).trans rfl; have hcz24_4 : w23.cell? ⟨gb397, 4, none⟩ = some (.int .i64 a1_4) := (blk_cell BK397.out 4).trans rfl; have hfz24_0 := blk_frozen BK397.out 0; have hfz24_1 := blk_frozen BK397.out 1; have hfz24_2 := blk_frozen BK397.out 2; have hfz24_3 := blk_frozen BK397.out 3; have hfz24_4 := blk_frozen BK397.out 4) | ((with_reducible refine gate_callee (f := 23) rfl ?_); refine goesL_ (some 35) rfl rfl Try.func23 (by kernel_rfl) rfl #[.int .i64 a0, .agg #[.int .i64 a1_0, .int .i64 a1_1, .int .i64 a1_2, .int .i64 a1_3, .int .i64 a1_4], .string t400, .int .i64 0] rfl (by (try simp only [List.map_toArray, List.map_cons, List.map_nil]); first | done | rfl | (simp only [List.length_drop, List.length_take]; rfl)) ?_; (with_reducible refine (cell_Get.calls kj3 a0 a1_0 a1_1 a1_2 a1_3 a1_4 t400 0 t402 t403 t404 _ A15.out).mono ?_); rintro e w25 ⟨rfl, hb⟩; refine ⟨_, rfl, ?_⟩; have n0_ := Aside0.mk (blk_below (g := gb397) (o := .cells #[.int .i64 a1_0, .int .i64 a1_1, .int .i64 a1_2, .int .i64 a1_3, .int .i64 a1_4] 23 (0, 0)) (by (with_reducible repeat (first | refine blk_drewN ?_ _ | refine blk_drew ?_ | refine blk_alloc ?_ _)); exact BK397.out) hb); have n1_ := Aside0.mk (below_step (by repeat (first | (with_reducible first | exact HB.out | apply below_alloc | apply pw_below_drewN | apply below_drew1 | refine below_set ?_ GE397.out) | exact HB.out)) hb); clear BK397; clear HB; have BK397 := n0_; have HB := n1_; clear n0_ n1_; (try clear hb); (try clear hb2); (try clear hk); (try clear hi)))
       go_ret
       exact ⟨by first | rfl | (simp [errW_none, errW_some] <;> rfl) | (simp [*, errW_none, errW_some] <;> rfl), by repeat (first | (with_reducible first | exact HB.out | apply below_alloc | apply pw_below_drewN | apply below_drew1 | refine below_set ?_ GE397.out) | exact HB.out)⟩
     ·rw [if_neg c16] at H
      have c16b0 : (t402.toList == a2.toList) = false := beq_eq_false_iff_ne.mpr c16
      have c16b1 : (t402.toList != a2.toList) = true := bne_iff_ne.mpr c16
      obtain rfl := Option.some.inj H
      have hcz26_0 : wc.cell? ⟨gb397, 0, none⟩ = some (.int .i64 a1_0) := (blk_cell BK397.out 0).trans rfl
      have hcz26_1 : wc.cell? ⟨gb397, 1, none⟩ = some (.int .i64 a1_1) := (blk_cell BK397.out 1).trans rfl
      have hcz26_2 : wc.cell? ⟨gb397, 2, none⟩ = some (.int .i64 a1_2) := (blk_cell BK397.out 2).trans rfl
      have hcz26_3 : wc.cell? ⟨gb397, 3, none⟩ = some (.int .i64 a1_3) := (blk_cell BK397.out 3).trans rfl
      have hcz26_4 : wc.cell? ⟨gb397, 4, none⟩ = some (.int .i64 a1_4) := (blk_cell BK397.out 4).trans rfl
      have hfz26_0 := blk_frozen BK397.out 0
      have hfz26_1 := blk_frozen BK397.out 1
      have hfz26_2 := blk_frozen BK397.out 2
      have hfz26_3 := blk_frozen BK397.out 3
      have hfz26_4 := blk_frozen BK397.out 4
      go_wp2_with (first | ((with_reducible refine gate_callee (f := 21) rfl ?_); refine goesL_ (some 24) rfl rfl Try.func21 (by kernel_rfl) rfl #[.int .i64 a0, .agg #[.int .i64 a1_0, .int .i64 a1_1, .int .i64 a1_2, .int .i64 a1_3, .int .i64 a1_4], .string a2] rfl (by (try simp only [List.map_toArray, List.map_cons, List.map_nil]); first | done | rfl | (simp only [List.length_drop, List.length_take]; rfl)) ?_; (with_reducible refine (cell_Put.calls kj3 a0 a1_0 a1_1 a1_2 a1_3 a1_4 a2 t400 t401 _ A13.out).mono ?_); rintro e w27 ⟨rfl, hb⟩; refine ⟨_, rfl, ?_⟩; have n0_ := Aside0.mk (blk_below (g := gb397) (o := .cells #[.int .i64 a1_0, .int .i64 a1_1, .int .i64 a1_2, .int .i64 a1_3, .int .i64 a1_4] 23 (0, 0)) (by (with_reducible repeat (first | refine blk_drewN ?_ _ | refine blk_drew ?_ | refine blk_alloc ?_ _)); exact BK397.out) hb); have n1_ := Aside0.mk (below_step (by repeat (first | (with_reducible first | exact HB.out | apply below_alloc | apply pw_below_drewN | apply below_drew1 | refine below_set ?_ GE397.out) | exact HB.out)) hb); clear BK397; clear HB; have BK397 := n0_; have HB := n1_; clear n0_ n1_; (try clear hb); (try clear hb2); (try clear hk); (try clear hi); have hcz28_0 : w27.cell? ⟨gb397, 0, none⟩ = some (.int .i64 a1_0) := (blk_cell BK397.out 0).trans rfl; have hcz28_1 : w27.cell? ⟨gb397, 1, none⟩ = some (.int .i64 a1_1) := (blk_cell BK397.out 1).trans rfl; have hcz28_2 : w27.cell? ⟨gb397, 2, none⟩ = some (.int .i64 a1_2) := (blk_cell BK397.out 2).trans rfl; have hcz28_3 : w27.cell? ⟨gb397, 3, none⟩ = some (.int .i64 a1_3) := (blk_cell BK397.out 3).trans rfl; have hcz28_4 : w27.cell? ⟨gb397, 4, none⟩ = some (.int .i64 a1_4) := (blk_cell BK397.out 4).trans rfl; have hfz28_0 := blk_frozen BK397.out 0; have hfz28_1 := blk_frozen BK397.out 1; have hfz28_2 := blk_frozen BK397.out 2; have hfz28_3 := blk_frozen BK397.out 3; have hfz28_4 := blk_frozen BK397.out 4) | ((with_reducible refine gate_callee (f := 23) rfl ?_); refine goesL_ (some 35) rfl rfl Try.func23 (by kernel_rfl) rfl #[.int .i64 a0, .agg #[.int .i64 a1_0, .int .i64 a1_1, .int .i64 a1_2, .int .i64 a1_3, .int .i64 a1_4], .string t400, .int .i64 0] rfl (by (try simp only [List.map_toArray, List.map_cons, List.map_nil]); first | done | rfl | (simp only [List.length_drop, List.length_take]; rfl)) ?_; (with_reducible refine (cell_Get.calls kj3 a0 a1_0 a1_1 a1_2 a1_3 a1_4 t400 0 t402 t403 t404 _ A15.out).mono ?_); rintro e w29 ⟨rfl, hb⟩; refine ⟨_, rfl, ?_⟩; have n0_ := Aside0.mk (blk_below (g := gb397) (o := .cells #[.int .i64 a1_0, .int .i64 a1_1, .int .i64 a1_2, .int .i64 a1_3, .int .i64 a1_4] 23 (0, 0)) (by (with_reducible repeat (first | refine blk_drewN ?_ _ | refine blk_drew ?_ | refine blk_alloc ?_ _)); exact BK397.out) hb); have n1_ := Aside0.mk (below_step (by repeat (first | (with_reducible first | exact HB.out | apply below_alloc | apply pw_below_drewN | apply below_drew1 | refine below_set ?_ GE397.out) | exact HB.out)) hb); clear BK397; clear HB; have BK397 := n0_; have HB := n1_; clear n0_ n1_; (try clear hb); (try clear hb2); (try clear hk); (try clear hi)))
      go_ret
      exact ⟨by first | rfl | (simp [errW_none, errW_some] <;> rfl) | (simp [*, errW_none, errW_some] <;> rfl), by repeat (first | (with_reducible first | exact HB.out | apply below_alloc | apply pw_below_drewN | apply below_drew1 | refine below_set ?_ GE397.out) | exact HB.out)⟩
    ·rw [if_neg c14] at H
     have c14b0 : (t401 == 0) = false := beq_eq_false_iff_ne.mpr c14
     have c14b1 : (t401 != 0) = true := bne_iff_ne.mpr c14
     obtain rfl := Option.some.inj H
     have hcz30_0 : wc.cell? ⟨gb397, 0, none⟩ = some (.int .i64 a1_0) := (blk_cell BK397.out 0).trans rfl
     have hcz30_1 : wc.cell? ⟨gb397, 1, none⟩ = some (.int .i64 a1_1) := (blk_cell BK397.out 1).trans rfl
     have hcz30_2 : wc.cell? ⟨gb397, 2, none⟩ = some (.int .i64 a1_2) := (blk_cell BK397.out 2).trans rfl
     have hcz30_3 : wc.cell? ⟨gb397, 3, none⟩ = some (.int .i64 a1_3) := (blk_cell BK397.out 3).trans rfl
     have hcz30_4 : wc.cell? ⟨gb397, 4, none⟩ = some (.int .i64 a1_4) := (blk_cell BK397.out 4).trans rfl
     have hfz30_0 := blk_frozen BK397.out 0
     have hfz30_1 := blk_frozen BK397.out 1
     have hfz30_2 := blk_frozen BK397.out 2
     have hfz30_3 := blk_frozen BK397.out 3
     have hfz30_4 := blk_frozen BK397.out 4
     go_wp2_with (first | ((with_reducible refine gate_callee (f := 21) rfl ?_); refine goesL_ (some 24) rfl rfl Try.func21 (by kernel_rfl) rfl #[.int .i64 a0, .agg #[.int .i64 a1_0, .int .i64 a1_1, .int .i64 a1_2, .int .i64 a1_3, .int .i64 a1_4], .string a2] rfl (by (try simp only [List.map_toArray, List.map_cons, List.map_nil]); first | done | rfl | (simp only [List.length_drop, List.length_take]; rfl)) ?_; (with_reducible refine (cell_Put.calls kj3 a0 a1_0 a1_1 a1_2 a1_3 a1_4 a2 t400 t401 _ A13.out).mono ?_); rintro e w31 ⟨rfl, hb⟩; refine ⟨_, rfl, ?_⟩; have n0_ := Aside0.mk (blk_below (g := gb397) (o := .cells #[.int .i64 a1_0, .int .i64 a1_1, .int .i64 a1_2, .int .i64 a1_3, .int .i64 a1_4] 23 (0, 0)) (by (with_reducible repeat (first | refine blk_drewN ?_ _ | refine blk_drew ?_ | refine blk_alloc ?_ _)); exact BK397.out) hb); have n1_ := Aside0.mk (below_step (by repeat (first | (with_reducible first | exact HB.out | apply below_alloc | apply pw_below_drewN | apply below_drew1 | refine below_set ?_ GE397.out) | exact HB.out)) hb); clear BK397; clear HB; have BK397 := n0_; have HB := n1_; clear n0_ n1_; (try clear hb); (try clear hb2); (try clear hk); (try clear hi)))
     go_ret
     exact ⟨by first | rfl | (simp [errW_none, errW_some] <;> rfl) | (simp [*, errW_none, errW_some] <;> rfl), by repeat (first | (with_reducible first | exact HB.out | apply below_alloc | apply pw_below_drewN | apply below_drew1 | refine below_set ?_ GE397.out) | exact HB.out)⟩

/-- THE ONE PURE STATEMENT of groatlaw12_CellBack. -/
def groatlaw12_CellBack.Pure : Prop := ∀ (x0 : Int) (x1 : S23) (x2 : ByteArray), (Lit.int .i64 x0).wf = true → Q23 x1 → x2.size ≤ 140737488351232 → ∃ k, groatlaw12_CellBack.f k x0 x1.f0 x1.f1 x1.f2 x1.f3 x1.f4 x2 = some true

end Go.Proofs.Ytfaeodcapagjbaa.P
