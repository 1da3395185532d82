-- written for this claim by wip/pp.py
import Derived.Test.YtfaeodcapagjbaaPx0
import Derived.Test.YtfaeodcapagjbaaPx2
import Derived.Test.YtfaeodcapagjbaaPx5
namespace Go.Proofs.Ytfaeodcapagjbaa.P
open Go.RowKit Go.Proofs.YtfaeodcapagjbaaW.PrintWords Go.Proofs.YtfaeodcapagjbaaW.PrintLast Go.Proofs.YtfaeodcapagjbaaW.PrintMore
attribute [local go_sem] max2_int min2_int max_two min_two max_three min_three max_four min_four   -- for this text's walks alone
set_option linter.unusedVariables false
set_option linter.unusedSimpArgs false

/-! ### cell_Put: function 21 -/
def cell_Put.j0 : Nat → Int → ByteArray → ByteArray → Int → Int → Int → Int → Int → Option (ByteArray × Int)
 | 0, _, _, _, _, _, _, _, _ => none
 | k + 1, x0, x2, x9, x226000, x226001, x226002, x226003, x226004 => (cell_how.f k x0 x226001).bind fun t230 => (if t230 = 1 then ((bcd_Put.f k x2).bind fun bt231 => (if x9.size + bt231.1.size ≤ 9223372036854775807 then (some (x9 ++ bt231.1, 0)) else (none))) else (if t230 = 2 then ((hexa_Put.f k x2).bind fun t233 => (if x9.size + t233.size ≤ 9223372036854775807 then (some (x9 ++ t233, 0)) else (none))) else (if x9.size + x2.size ≤ 9223372036854775807 then (some (x9 ++ x2, 0)) else (none))))
def cell_Put.f (k : Nat) (a0 : Int) (a1_0 : Int) (a1_1 : Int) (a1_2 : Int) (a1_3 : Int) (a1_4 : Int) (a2 : ByteArray) : Option (ByteArray × Int) := (cell_known.f a0).bind fun t226 => (if t226 = true then ((spec_Value.f k a1_0 a1_1 a1_2 a1_3 a1_4 a2).bind fun t227 => (if t227 = 0 then (if a1_2 = 1 then (cell_Put.j0 k a0 a2 (⟨#[]⟩ : ByteArray) a1_0 a1_1 a1_2 a1_3 a1_4) else ((prefix_Put.f k a0 a1_2 (a2.size : Int)).bind fun bt228 => (cell_Put.j0 k a0 a2 bt228.1 a1_0 a1_1 a1_2 a1_3 a1_4))) else (some ((⟨#[]⟩ : ByteArray), t227)))) else (some ((⟨#[]⟩ : ByteArray), 1)))
theorem cell_Put.mono_l : ∀ k, (∀ y0 y1 y2 y3 y4 y5 y6 y7, LeO (cell_Put.j0 k y0 y1 y2 y3 y4 y5 y6 y7) (cell_Put.j0 (k + 1) y0 y1 y2 y3 y4 y5 y6 y7))
 | 0 => fun _ _ _ _ _ _ _ _ r h => by simp [cell_Put.j0] at h
 | k + 1 => by
  have ih0 := cell_Put.mono_l k
  ·intro y0 y1 y2 y3 y4 y5 y6 y7
   unfold cell_Put.j0
   repeat' first
   | (with_reducible exact ih0 _ _ _ _ _ _ _ _)
   | (with_reducible exact bcd_Put.mono _ _)
   | (with_reducible exact cell_how.mono _ _ _)
   | (with_reducible exact hexa_Put.mono _ _)
   | (with_reducible exact prefix_Put.mono _ _ _ _)
   | (with_reducible exact spec_Value.mono _ _ _ _ _ _ _)
   | (with_reducible exact LeO.refl _)
   | (with_reducible exact LeO.none _)
   | (with_reducible refine LeO.ite ?_ ?_)
   | (with_reducible refine LeO.bind ?_ (fun _ => ?_))
   | exact ih0 _ _ _ _ _ _ _ _
   | exact bcd_Put.mono _ _
   | exact cell_how.mono _ _ _
   | exact hexa_Put.mono _ _
   | exact prefix_Put.mono _ _ _ _
   | exact spec_Value.mono _ _ _ _ _ _ _
   | exact LeO.none _
   | refine LeO.ite ?_ ?_
   | refine LeO.bind ?_ (fun _ => ?_)
theorem cell_Put.mono : ∀ a0 a1 a2 a3 a4 a5 a6 k, LeO (cell_Put.f k a0 a1 a2 a3 a4 a5 a6) (cell_Put.f (k + 1) a0 a1 a2 a3 a4 a5 a6) := by
 intro a0 a1 a2 a3 a4 a5 a6 k
 have ih0 := cell_Put.mono_l k
 unfold cell_Put.f
 repeat' first
   | (with_reducible exact ih0 _ _ _ _ _ _ _ _)
   | (with_reducible exact bcd_Put.mono _ _)
   | (with_reducible exact cell_how.mono _ _ _)
   | (with_reducible exact hexa_Put.mono _ _)
   | (with_reducible exact prefix_Put.mono _ _ _ _)
   | (with_reducible exact spec_Value.mono _ _ _ _ _ _ _)
   | (with_reducible exact LeO.refl _)
   | (with_reducible exact LeO.none _)
   | (with_reducible refine LeO.ite ?_ ?_)
   | (with_reducible refine LeO.bind ?_ (fun _ => ?_))
   | exact ih0 _ _ _ _ _ _ _ _
   | exact bcd_Put.mono _ _
   | exact cell_how.mono _ _ _
   | exact hexa_Put.mono _ _
   | exact prefix_Put.mono _ _ _ _
   | exact spec_Value.mono _ _ _ _ _ _ _
   | exact LeO.none _
   | refine LeO.ite ?_ ?_
   | refine LeO.bind ?_ (fun _ => ?_)
set_option maxHeartbeats 8000000 in
set_option maxRecDepth 100000 in
theorem cell_Put.calls (k : Nat) (a0 : Int) (a1_0 : Int) (a1_1 : Int) (a1_2 : Int) (a1_3 : Int) (a1_4 : Int) (a2 : ByteArray) (r1 : ByteArray) (r2 : Int) (w : World) (h : cell_Put.f k a0 a1_0 a1_1 a1_2 a1_3 a1_4 a2 = some (r1, r2)) :
  Calls Try.prog 21 #[.int .i64 a0, .agg #[.int .i64 a1_0, .int .i64 a1_1, .int .i64 a1_2, .int .i64 a1_3, .int .i64 a1_4], .string a2] w fun e w' => e = .returned (.tuple #[.string r1, .int .i64 r2]) ∧ Below w.heap.size w w' := by
 have hu23 := Try.underlying23
 have HB := Aside0.mk (Below.refl w.heap.size w)
 have H : ((cell_known.f a0).bind fun t226 => (if t226 = true then ((spec_Value.f k a1_0 a1_1 a1_2 a1_3 a1_4 a2).bind fun t227 => (if t227 = 0 then (if a1_2 = 1 then (cell_Put.j0 k a0 a2 (⟨#[]⟩ : ByteArray) a1_0 a1_1 a1_2 a1_3 a1_4) else ((prefix_Put.f k a0 a1_2 (a2.size : Int)).bind fun bt228 => (cell_Put.j0 k a0 a2 bt228.1 a1_0 a1_1 a1_2 a1_3 a1_4))) else (some ((⟨#[]⟩ : ByteArray), t227)))) else (some ((⟨#[]⟩ : ByteArray), 1)))) = some (r1, r2) := h
 clear h
 replace H := Option.bind_eq_some_iff.mp H
 obtain ⟨t226, A40, H⟩ := H
 replace H : (if t226 = true then ((spec_Value.f k a1_0 a1_1 a1_2 a1_3 a1_4 a2).bind fun t227 => (if t227 = 0 then (if a1_2 = 1 then (cell_Put.j0 k a0 a2 (⟨#[]⟩ : ByteArray) a1_0 a1_1 a1_2 a1_3 a1_4) else ((prefix_Put.f k a0 a1_2 (a2.size : Int)).bind fun bt228 => (cell_Put.j0 k a0 a2 bt228.1 a1_0 a1_1 a1_2 a1_3 a1_4))) else (some ((⟨#[]⟩ : ByteArray), t227)))) else (some ((⟨#[]⟩ : ByteArray), 1))) = some (r1, r2) := H
 have A4 := Aside0.mk A40
 clear A40
 by_cases c5 : t226 = true
 ·subst c5
  have H1 : ((spec_Value.f k a1_0 a1_1 a1_2 a1_3 a1_4 a2).bind fun t227 => (if t227 = 0 then (if a1_2 = 1 then (cell_Put.j0 k a0 a2 (⟨#[]⟩ : ByteArray) a1_0 a1_1 a1_2 a1_3 a1_4) else ((prefix_Put.f k a0 a1_2 (a2.size : Int)).bind fun bt228 => (cell_Put.j0 k a0 a2 bt228.1 a1_0 a1_1 a1_2 a1_3 a1_4))) else (some ((⟨#[]⟩ : ByteArray), t227)))) = some (r1, r2) := by rw [if_pos rfl] at H; exact H
  clear H
  have H := H1
  clear H1
  replace H := Option.bind_eq_some_iff.mp H
  obtain ⟨t227, A60, H⟩ := H
  replace H : (if t227 = 0 then (if a1_2 = 1 then (cell_Put.j0 k a0 a2 (⟨#[]⟩ : ByteArray) a1_0 a1_1 a1_2 a1_3 a1_4) else ((prefix_Put.f k a0 a1_2 (a2.size : Int)).bind fun bt228 => (cell_Put.j0 k a0 a2 bt228.1 a1_0 a1_1 a1_2 a1_3 a1_4))) else (some ((⟨#[]⟩ : ByteArray), t227))) = some (r1, r2) := H
  have A6 := Aside0.mk A60
  clear A60
  by_cases c7 : t227 = 0
  ·rw [if_pos c7] at H
   have c7b0 : (t227 == 0) = true := beq_iff_eq.mpr c7
   have c7b1 : (t227 != 0) = false := bne_eq_false_iff_eq.mpr c7
   clear c7
   have HC8 := Aside0.mk H
   clear H
   go_enter Try.func21, Try.ntmps21
   go_upto_if 21 with (first | ((with_reducible refine gate_dst (N := 4) rfl ?_); refine box_event ?hg (N := 4) ?hd (cs := #[.int .i64 a1_0, .int .i64 a1_1, .int .i64 a1_2, .int .i64 a1_3, .int .i64 a1_4]) (t := 23) ?hr ?_; (case hd => rfl); (case hg => rfl); (case hr => first | (go_simp; done) | (go_simp; rfl) | (have hu8_ := IntKind.wrap_u8; go_simp; done) | (have hu8_ := IntKind.wrap_u8; go_simp; rfl) | (go_simp; simp [IntKind.wrap_u8]; done)); intro gb225 hg w9 hbox hb; have n0_ := Aside0.mk (below_step (by repeat (first | (with_reducible first | exact HB.out | apply below_alloc | apply pw_below_drewN | apply below_drew1) | exact HB.out)) hb); have n1_ := Aside0.mk (hbox); have n2_ := Aside0.mk ((by rw [hg]; exact (below_size (by repeat (first | (with_reducible first | exact HB.out | apply below_alloc | apply pw_below_drewN | apply below_drew1) | exact HB.out))) : w.heap.size ≤ gb225)); have n3_ := Aside0.mk ((by rw [hg]; exact (below_size (by repeat (first | (with_reducible first | exact HB.out | apply below_alloc | apply pw_below_drewN | apply below_drew1) | exact HB.out))) : w.heap.size ≤ gb225)); clear HB; have HB := n0_; have BK225 := n1_; have GW225 := n2_; have GE225 := n3_; clear n0_ n1_ n2_ n3_; clear hb hbox hg) | ((with_reducible refine gate_callee (f := 33) rfl ?_); refine goesL_ (some 11) rfl rfl Try.func33 (by kernel_rfl) rfl #[.int .i64 a0] rfl (by (try simp only [List.map_toArray, List.map_cons, List.map_nil]); first | done | rfl | (simp only [List.length_drop, List.length_take]; rfl)) ?_; (with_reducible refine (cell_known.calls a0 true _ A4.out).mono ?_); rintro e w' ⟨rfl, ⟨nd, rfl⟩⟩; refine ⟨_, rfl, ?_⟩; have hcz10_0 : w9.cell? ⟨gb225, 0, none⟩ = some (.int .i64 a1_0) := (blk_cell BK225.out 0).trans rfl; have hcz10_1 : w9.cell? ⟨gb225, 1, none⟩ = some (.int .i64 a1_1) := (blk_cell BK225.out 1).trans rfl; have hcz10_2 : w9.cell? ⟨gb225, 2, none⟩ = some (.int .i64 a1_2) := (blk_cell BK225.out 2).trans rfl; have hcz10_3 : w9.cell? ⟨gb225, 3, none⟩ = some (.int .i64 a1_3) := (blk_cell BK225.out 3).trans rfl; have hcz10_4 : w9.cell? ⟨gb225, 4, none⟩ = some (.int .i64 a1_4) := (blk_cell BK225.out 4).trans rfl; have hfz10_0 := blk_frozen BK225.out 0; have hfz10_1 := blk_frozen BK225.out 1; have hfz10_2 := blk_frozen BK225.out 2; have hfz10_3 := blk_frozen BK225.out 3; have hfz10_4 := blk_frozen BK225.out 4) | ((with_reducible refine gate_callee (f := 16) rfl ?_); refine goesL_ (some 15) rfl rfl Try.func16 (by kernel_rfl) rfl #[.agg #[.int .i64 a1_0, .int .i64 a1_1, .int .i64 a1_2, .int .i64 a1_3, .int .i64 a1_4], .string a2] rfl (by (try simp only [List.map_toArray, List.map_cons, List.map_nil]); first | done | rfl | (simp only [List.length_drop, List.length_take]; rfl)) ?_; (with_reducible refine (spec_Value.calls k a1_0 a1_1 a1_2 a1_3 a1_4 a2 t227 _ A6.out).mono ?_); rintro e w11 ⟨rfl, hb⟩; refine ⟨_, rfl, ?_⟩; have n0_ := Aside0.mk (blk_below (g := gb225) (o := .cells #[.int .i64 a1_0, .int .i64 a1_1, .int .i64 a1_2, .int .i64 a1_3, .int .i64 a1_4] 23 (0, 0)) (by (with_reducible repeat (first | refine blk_drewN ?_ _ | refine blk_drew ?_ | refine blk_alloc ?_ _)); exact BK225.out) hb); have n1_ := Aside0.mk (below_step (by repeat (first | (with_reducible first | exact HB.out | apply below_alloc | apply pw_below_drewN | apply below_drew1 | refine below_set ?_ GE225.out) | exact HB.out)) hb); clear BK225; clear HB; have BK225 := n0_; have HB := n1_; clear n0_ n1_; (try clear hb); (try clear hb2); (try clear hk); (try clear hi); have hcz12_0 : w11.cell? ⟨gb225, 0, none⟩ = some (.int .i64 a1_0) := (blk_cell BK225.out 0).trans rfl; have hcz12_1 : w11.cell? ⟨gb225, 1, none⟩ = some (.int .i64 a1_1) := (blk_cell BK225.out 1).trans rfl; have hcz12_2 : w11.cell? ⟨gb225, 2, none⟩ = some (.int .i64 a1_2) := (blk_cell BK225.out 2).trans rfl; have hcz12_3 : w11.cell? ⟨gb225, 3, none⟩ = some (.int .i64 a1_3) := (blk_cell BK225.out 3).trans rfl; have hcz12_4 : w11.cell? ⟨gb225, 4, none⟩ = some (.int .i64 a1_4) := (blk_cell BK225.out 4).trans rfl; have hfz12_0 := blk_frozen BK225.out 0; have hfz12_1 := blk_frozen BK225.out 1; have hfz12_2 := blk_frozen BK225.out 2; have hfz12_3 := blk_frozen BK225.out 3; have hfz12_4 := blk_frozen BK225.out 4))
   (try simp only [Act.put, List.setIfInBounds_toArray, List.set_cons_zero, List.set_cons_succ])
   go_cut [9] (fun v9 wc => ∃ (kq : Nat) (x9_7 : ByteArray), v9 = .string x9_7 ∧ Aside0 (cell_Put.j0 kq a0 a2 x9_7 a1_0 a1_1 a1_2 a1_3 a1_4 = some (r1, r2)) ∧ Aside0 (kq ≤ k) ∧ Aside0 (wc.heap[gb225]? = some (.cells #[.int .i64 a1_0, .int .i64 a1_1, .int .i64 a1_2, .int .i64 a1_3, .int .i64 a1_4] 23 (0, 0))) ∧ Aside0 (Below w.heap.size w wc))
   case first =>
    have H := HC8.out
    clear HC8
    by_cases c13 : a1_2 = 1
    ·rw [if_pos c13] at H
     have c13b0 : (a1_2 == 1) = true := beq_iff_eq.mpr c13
     have c13b1 : (a1_2 != 1) = false := bne_eq_false_iff_eq.mpr c13
     clear c13
     (first | rw [c13b0] | (simp only [i64_w, i32_w]; rw [c13b0]) | skip)
     have H' := Aside0.mk H
     clear H
     go_wp2
     go_meet
     case rel => exact ⟨_, ((⟨#[]⟩ : ByteArray)), (by first | rfl | (simp; done) | (simp [*]; done) | (simp [wrap64]; done)), H', ⟨by first | omega | exact Nat.le_refl _⟩, ⟨by (with_reducible repeat (first | refine blk_drewN ?_ _ | refine blk_drew ?_ | refine blk_alloc ?_ _)); exact BK225.out⟩, ⟨by repeat (first | (with_reducible first | exact HB.out | apply below_alloc | apply pw_below_drewN | apply below_drew1 | refine below_set ?_ GE225.out) | exact HB.out)⟩⟩
    ·rw [if_neg c13] at H
     have c13b0 : (a1_2 == 1) = false := beq_eq_false_iff_ne.mpr c13
     have c13b1 : (a1_2 != 1) = true := bne_iff_ne.mpr c13
     (first | rw [c13b0] | (simp only [i64_w, i32_w]; rw [c13b0]) | skip)
     replace H := Option.bind_eq_some_iff.mp H
     obtain ⟨⟨t228, t229⟩, A140, H⟩ := H
     replace H : (cell_Put.j0 k a0 a2 t228 a1_0 a1_1 a1_2 a1_3 a1_4) = some (r1, r2) := H
     have A14 := Aside0.mk A140
     clear A140
     have H' := Aside0.mk H
     clear H
     have hcz15_0 : w11.cell? ⟨gb225, 0, none⟩ = some (.int .i64 a1_0) := (blk_cell BK225.out 0).trans rfl
     have hcz15_1 : w11.cell? ⟨gb225, 1, none⟩ = some (.int .i64 a1_1) := (blk_cell BK225.out 1).trans rfl
     have hcz15_2 : w11.cell? ⟨gb225, 2, none⟩ = some (.int .i64 a1_2) := (blk_cell BK225.out 2).trans rfl
     have hcz15_3 : w11.cell? ⟨gb225, 3, none⟩ = some (.int .i64 a1_3) := (blk_cell BK225.out 3).trans rfl
     have hcz15_4 : w11.cell? ⟨gb225, 4, none⟩ = some (.int .i64 a1_4) := (blk_cell BK225.out 4).trans rfl
     have hfz15_0 := blk_frozen BK225.out 0
     have hfz15_1 := blk_frozen BK225.out 1
     have hfz15_2 := blk_frozen BK225.out 2
     have hfz15_3 := blk_frozen BK225.out 3
     have hfz15_4 := blk_frozen BK225.out 4
     go_wp2_with (first | ((with_reducible refine gate_callee (f := 34) rfl ?_); refine goesL_ (some 28) rfl rfl Try.func34 (by kernel_rfl) rfl #[.int .i64 a0, .int .i64 a1_2, .int .i64 (a2.size : Int)] rfl (by (try simp only [List.map_toArray, List.map_cons, List.map_nil]); first | done | rfl | (simp only [List.length_drop, List.length_take]; rfl)) ?_; (with_reducible refine (prefix_Put.calls k a0 a1_2 (a2.size : Int) t228 t229 _ A14.out).mono ?_); rintro e w16 ⟨rfl, hb⟩; refine ⟨_, rfl, ?_⟩; have n0_ := Aside0.mk (blk_below (g := gb225) (o := .cells #[.int .i64 a1_0, .int .i64 a1_1, .int .i64 a1_2, .int .i64 a1_3, .int .i64 a1_4] 23 (0, 0)) (by (with_reducible repeat (first | refine blk_drewN ?_ _ | refine blk_drew ?_ | refine blk_alloc ?_ _)); exact BK225.out) hb); have n1_ := Aside0.mk (below_step (by repeat (first | (with_reducible first | exact HB.out | apply below_alloc | apply pw_below_drewN | apply below_drew1 | refine below_set ?_ GE225.out) | exact HB.out)) hb); clear BK225; clear HB; have BK225 := n0_; have HB := n1_; clear n0_ n1_; (try clear hb); (try clear hb2); (try clear hk); (try clear hi)))
     go_meet
     case rel => exact ⟨_, (t228), (by first | rfl | (simp; done) | (simp [*]; done) | (simp [wrap64]; done)), H', ⟨by first | omega | exact Nat.le_refl _⟩, ⟨by (with_reducible repeat (first | refine blk_drewN ?_ _ | refine blk_drew ?_ | refine blk_alloc ?_ _)); exact BK225.out⟩, ⟨by repeat (first | (with_reducible first | exact HB.out | apply below_alloc | apply pw_below_drewN | apply below_drew1 | refine below_set ?_ GE225.out) | exact HB.out)⟩⟩
   case rest =>
    clear HC8
    try clear c1
    try clear c2
    try clear p2
    try clear c3
    try clear c5
    try clear p6
    try clear c7
    try clear c7b0
    try clear c7b1
    try clear c13
    try clear c13b0
    try clear c13b1
    try clear c16
    try clear hcz10_0
    try clear hcz10_1
    try clear hcz10_2
    try clear hcz10_3
    try clear hcz10_4
    try clear hcz12_0
    try clear hcz12_1
    try clear hcz12_2
    try clear hcz12_3
    try clear hcz12_4
    try clear hcz15_0
    try clear hcz15_1
    try clear hcz15_2
    try clear hcz15_3
    try clear hcz15_4
    try clear hfz10_0
    try clear hfz10_1
    try clear hfz10_2
    try clear hfz10_3
    try clear hfz10_4
    try clear hfz12_0
    try clear hfz12_1
    try clear hfz12_2
    try clear hfz12_3
    try clear hfz12_4
    try clear hfz15_0
    try clear hfz15_1
    try clear hfz15_2
    try clear hfz15_3
    try clear hfz15_4
    obtain ⟨kq, x9_7, rfl, HA, HJ7, BK225, HB⟩ := hcut
    cases kq with
    | zero => exact absurd HA.out (by simp [cell_Put.j0])
    | succ kj7 =>
     have H := HA.out
     clear HA
     simp only [cell_Put.j0] at H
     replace H := Option.bind_eq_some_iff.mp H
     obtain ⟨t230, A170, H⟩ := H
     replace H : (if t230 = 1 then ((bcd_Put.f kj7 a2).bind fun bt231 => (if x9_7.size + bt231.1.size ≤ 9223372036854775807 then (some (x9_7 ++ bt231.1, 0)) else (none))) else (if t230 = 2 then ((hexa_Put.f kj7 a2).bind fun t233 => (if x9_7.size + t233.size ≤ 9223372036854775807 then (some (x9_7 ++ t233, 0)) else (none))) else (if x9_7.size + a2.size ≤ 9223372036854775807 then (some (x9_7 ++ a2, 0)) else (none)))) = some (r1, r2) := H
     have A17 := Aside0.mk A170
     clear A170
     by_cases c18 : t230 = 1
     ·rw [if_pos c18] at H
      have c18b0 : (t230 == 1) = true := beq_iff_eq.mpr c18
      have c18b1 : (t230 != 1) = false := bne_eq_false_iff_eq.mpr c18
      clear c18
      replace H := Option.bind_eq_some_iff.mp H
      obtain ⟨⟨t231, t232⟩, A190, H⟩ := H
      replace H : (if x9_7.size + t231.size ≤ 9223372036854775807 then (some (x9_7 ++ t231, 0)) else (none)) = some (r1, r2) := H
      have A19 := Aside0.mk A190
      clear A190
      by_cases c20 : x9_7.size + t231.size ≤ 9223372036854775807
      ·rw [if_pos c20] at H
       have c20b0 := eq_true c20
       have c20b1 : decide (x9_7.size + t231.size ≤ 9223372036854775807) = true := decide_eq_true c20
       try have c20b2 : (9223372036854775807 < x9_7.size + t231.size) = False := eq_false (Nat.not_lt.2 c20)
       try (have c20b3 := c20b2; simp only [ByteArray.size_extract, ByteArray.size_append, Nat.min_self, Nat.sub_zero] at c20b3)
       simp only [Option.some.injEq, Prod.mk.injEq] at H
       obtain ⟨rfl, rfl⟩ := H
       have hcz21_0 : wc.cell? ⟨gb225, 0, none⟩ = some (.int .i64 a1_0) := (blk_cell BK225.out 0).trans rfl
       have hcz21_1 : wc.cell? ⟨gb225, 1, none⟩ = some (.int .i64 a1_1) := (blk_cell BK225.out 1).trans rfl
       have hcz21_2 : wc.cell? ⟨gb225, 2, none⟩ = some (.int .i64 a1_2) := (blk_cell BK225.out 2).trans rfl
       have hcz21_3 : wc.cell? ⟨gb225, 3, none⟩ = some (.int .i64 a1_3) := (blk_cell BK225.out 3).trans rfl
       have hcz21_4 : wc.cell? ⟨gb225, 4, none⟩ = some (.int .i64 a1_4) := (blk_cell BK225.out 4).trans rfl
       have hfz21_0 := blk_frozen BK225.out 0
       have hfz21_1 := blk_frozen BK225.out 1
       have hfz21_2 := blk_frozen BK225.out 2
       have hfz21_3 := blk_frozen BK225.out 3
       have hfz21_4 := blk_frozen BK225.out 4
       go_wp2_with (first | ((with_reducible refine gate_callee (f := 35) rfl ?_); refine goesL_ (some 34) rfl rfl Try.func35 (by kernel_rfl) rfl #[.int .i64 a0, .int .i64 a1_1] rfl (by (try simp only [List.map_toArray, List.map_cons, List.map_nil]); first | done | rfl | (simp only [List.length_drop, List.length_take]; rfl)) ?_; (with_reducible refine (cell_how.calls kj7 a0 a1_1 t230 _ A17.out).mono ?_); rintro e w' ⟨rfl, ⟨nd, rfl⟩⟩; refine ⟨_, rfl, ?_⟩) | ((with_reducible refine gate_callee (f := 36) rfl ?_); refine goesL_ (some 39) rfl rfl Try.func36 (by kernel_rfl) rfl #[.string a2] rfl (by (try simp only [List.map_toArray, List.map_cons, List.map_nil]); first | done | rfl | (simp only [List.length_drop, List.length_take]; rfl)) ?_; (with_reducible refine (bcd_Put.calls kj7 a2 t231 t232 _ A19.out).mono ?_); rintro e w22 ⟨rfl, hb⟩; refine ⟨_, rfl, ?_⟩; have n0_ := Aside0.mk (blk_below (g := gb225) (o := .cells #[.int .i64 a1_0, .int .i64 a1_1, .int .i64 a1_2, .int .i64 a1_3, .int .i64 a1_4] 23 (0, 0)) (by (with_reducible repeat (first | refine blk_drewN ?_ _ | refine blk_drew ?_ | refine blk_alloc ?_ _)); exact BK225.out) hb); have n1_ := Aside0.mk (below_step (by repeat (first | (with_reducible first | exact HB.out | apply below_alloc | apply pw_below_drewN | apply below_drew1 | refine below_set ?_ GE225.out) | exact HB.out)) hb); clear BK225; clear HB; have BK225 := n0_; have HB := n1_; clear n0_ n1_; (try clear hb); (try clear hb2); (try clear hk); (try clear hi)))
       go_ret2
       exact ⟨by first | rfl | (simp [errW_none, errW_some] <;> rfl) | (simp [*, errW_none, errW_some] <;> rfl), by repeat (first | (with_reducible first | exact HB.out | apply below_alloc | apply pw_below_drewN | apply below_drew1 | refine below_set ?_ GE225.out) | exact HB.out)⟩
      ·rw [if_neg c20] at H
       exact absurd H (by simp)
     ·rw [if_neg c18] at H
      have c18b0 : (t230 == 1) = false := beq_eq_false_iff_ne.mpr c18
      have c18b1 : (t230 != 1) = true := bne_iff_ne.mpr c18
      by_cases c23 : t230 = 2
      ·rw [if_pos c23] at H
       have c23b0 : (t230 == 2) = true := beq_iff_eq.mpr c23
       have c23b1 : (t230 != 2) = false := bne_eq_false_iff_eq.mpr c23
       clear c23
       replace H := Option.bind_eq_some_iff.mp H
       obtain ⟨t233, A240, H⟩ := H
       replace H : (if x9_7.size + t233.size ≤ 9223372036854775807 then (some (x9_7 ++ t233, 0)) else (none)) = some (r1, r2) := H
       have A24 := Aside0.mk A240
       clear A240
       by_cases c25 : x9_7.size + t233.size ≤ 9223372036854775807
       ·rw [if_pos c25] at H
        have c25b0 := eq_true c25
        have c25b1 : decide (x9_7.size + t233.size ≤ 9223372036854775807) = true := decide_eq_true c25
        try have c25b2 : (9223372036854775807 < x9_7.size + t233.size) = False := eq_false (Nat.not_lt.2 c25)
        try (have c25b3 := c25b2; simp only [ByteArray.size_extract, ByteArray.size_append, Nat.min_self, Nat.sub_zero] at c25b3)
        simp only [Option.some.injEq, Prod.mk.injEq] at H
        obtain ⟨rfl, rfl⟩ := H
        have hcz26_0 : wc.cell? ⟨gb225, 0, none⟩ = some (.int .i64 a1_0) := (blk_cell BK225.out 0).trans rfl
        have hcz26_1 : wc.cell? ⟨gb225, 1, none⟩ = some (.int .i64 a1_1) := (blk_cell BK225.out 1).trans rfl
        have hcz26_2 : wc.cell? ⟨gb225, 2, none⟩ = some (.int .i64 a1_2) := (blk_cell BK225.out 2).trans rfl
        have hcz26_3 : wc.cell? ⟨gb225, 3, none⟩ = some (.int .i64 a1_3) := (blk_cell BK225.out 3).trans rfl
        have hcz26_4 : wc.cell? ⟨gb225, 4, none⟩ = some (.int .i64 a1_4) := (blk_cell BK225.out 4).trans rfl
        have hfz26_0 := blk_frozen BK225.out 0
        have hfz26_1 := blk_frozen BK225.out 1
        have hfz26_2 := blk_frozen BK225.out 2
        have hfz26_3 := blk_frozen BK225.out 3
        have hfz26_4 := blk_frozen BK225.out 4
        go_wp2_with (first | ((with_reducible refine gate_callee (f := 35) rfl ?_); refine goesL_ (some 34) rfl rfl Try.func35 (by kernel_rfl) rfl #[.int .i64 a0, .int .i64 a1_1] rfl (by (try simp only [List.map_toArray, List.map_cons, List.map_nil]); first | done | rfl | (simp only [List.length_drop, List.length_take]; rfl)) ?_; (with_reducible refine (cell_how.calls kj7 a0 a1_1 t230 _ A17.out).mono ?_); rintro e w' ⟨rfl, ⟨nd, rfl⟩⟩; refine ⟨_, rfl, ?_⟩) | ((with_reducible refine gate_callee (f := 37) rfl ?_); refine goesL_ (some 45) rfl rfl Try.func37 (by kernel_rfl) rfl #[.string a2] rfl (by (try simp only [List.map_toArray, List.map_cons, List.map_nil]); first | done | rfl | (simp only [List.length_drop, List.length_take]; rfl)) ?_; (with_reducible refine (hexa_Put.calls kj7 a2 t233 _ A24.out).mono ?_); rintro e w27 ⟨rfl, hb⟩; refine ⟨_, rfl, ?_⟩; have n0_ := Aside0.mk (blk_below (g := gb225) (o := .cells #[.int .i64 a1_0, .int .i64 a1_1, .int .i64 a1_2, .int .i64 a1_3, .int .i64 a1_4] 23 (0, 0)) (by (with_reducible repeat (first | refine blk_drewN ?_ _ | refine blk_drew ?_ | refine blk_alloc ?_ _)); exact BK225.out) hb); have n1_ := Aside0.mk (below_step (by repeat (first | (with_reducible first | exact HB.out | apply below_alloc | apply pw_below_drewN | apply below_drew1 | refine below_set ?_ GE225.out) | exact HB.out)) hb); clear BK225; clear HB; have BK225 := n0_; have HB := n1_; clear n0_ n1_; (try clear hb); (try clear hb2); (try clear hk); (try clear hi)))
        go_ret2
        exact ⟨by first | rfl | (simp [errW_none, errW_some] <;> rfl) | (simp [*, errW_none, errW_some] <;> rfl), by repeat (first | (with_reducible first | exact HB.out | apply below_alloc | apply pw_below_drewN | apply below_drew1 | refine below_set ?_ GE225.out) | exact HB.out)⟩
       ·rw [if_neg c25] at H
        exact absurd H (by simp)
      ·rw [if_neg c23] at H
       have c23b0 : (t230 == 2) = false := beq_eq_false_iff_ne.mpr c23
       have c23b1 : (t230 != 2) = true := bne_iff_ne.mpr c23
       by_cases c28 : x9_7.size + a2.size ≤ 9223372036854775807
       ·rw [if_pos c28] at H
        have c28b0 := eq_true c28
        have c28b1 : decide (x9_7.size + a2.size ≤ 9223372036854775807) = true := decide_eq_true c28
        try have c28b2 : (9223372036854775807 < x9_7.size + a2.size) = False := eq_false (Nat.not_lt.2 c28)
        try (have c28b3 := c28b2; simp only [ByteArray.size_extract, ByteArray.size_append, Nat.min_self, Nat.sub_zero] at c28b3)
        simp only [Option.some.injEq, Prod.mk.injEq] at H
        obtain ⟨rfl, rfl⟩ := H
        have hcz29_0 : wc.cell? ⟨gb225, 0, none⟩ = some (.int .i64 a1_0) := (blk_cell BK225.out 0).trans rfl
        have hcz29_1 : wc.cell? ⟨gb225, 1, none⟩ = some (.int .i64 a1_1) := (blk_cell BK225.out 1).trans rfl
        have hcz29_2 : wc.cell? ⟨gb225, 2, none⟩ = some (.int .i64 a1_2) := (blk_cell BK225.out 2).trans rfl
        have hcz29_3 : wc.cell? ⟨gb225, 3, none⟩ = some (.int .i64 a1_3) := (blk_cell BK225.out 3).trans rfl
        have hcz29_4 : wc.cell? ⟨gb225, 4, none⟩ = some (.int .i64 a1_4) := (blk_cell BK225.out 4).trans rfl
        have hfz29_0 := blk_frozen BK225.out 0
        have hfz29_1 := blk_frozen BK225.out 1
        have hfz29_2 := blk_frozen BK225.out 2
        have hfz29_3 := blk_frozen BK225.out 3
        have hfz29_4 := blk_frozen BK225.out 4
        go_wp2_with (first | ((with_reducible refine gate_callee (f := 35) rfl ?_); refine goesL_ (some 34) rfl rfl Try.func35 (by kernel_rfl) rfl #[.int .i64 a0, .int .i64 a1_1] rfl (by (try simp only [List.map_toArray, List.map_cons, List.map_nil]); first | done | rfl | (simp only [List.length_drop, List.length_take]; rfl)) ?_; (with_reducible refine (cell_how.calls kj7 a0 a1_1 t230 _ A17.out).mono ?_); rintro e w' ⟨rfl, ⟨nd, rfl⟩⟩; refine ⟨_, rfl, ?_⟩))
        go_ret2
        exact ⟨by first | rfl | (simp [errW_none, errW_some] <;> rfl) | (simp [*, errW_none, errW_some] <;> rfl), by repeat (first | (with_reducible first | exact HB.out | apply below_alloc | apply pw_below_drewN | apply below_drew1 | refine below_set ?_ GE225.out) | exact HB.out)⟩
       ·rw [if_neg c28] at H
        exact absurd H (by simp)
  ·rw [if_neg c7] at H
   have c7b0 : (t227 == 0) = false := beq_eq_false_iff_ne.mpr c7
   have c7b1 : (t227 != 0) = true := bne_iff_ne.mpr c7
   simp only [Option.some.injEq, Prod.mk.injEq] at H
   obtain ⟨rfl, rfl⟩ := H
   go_enter Try.func21, Try.ntmps21
   go_wp2_with (first | ((with_reducible refine gate_dst (N := 4) rfl ?_); refine box_event ?hg (N := 4) ?hd (cs := #[.int .i64 a1_0, .int .i64 a1_1, .int .i64 a1_2, .int .i64 a1_3, .int .i64 a1_4]) (t := 23) ?hr ?_; (case hd => rfl); (case hg => rfl); (case hr => first | (go_simp; done) | (go_simp; rfl) | (have hu8_ := IntKind.wrap_u8; go_simp; done) | (have hu8_ := IntKind.wrap_u8; go_simp; rfl) | (go_simp; simp [IntKind.wrap_u8]; done)); intro gb225 hg w30 hbox hb; have n0_ := Aside0.mk (below_step (by repeat (first | (with_reducible first | exact HB.out | apply below_alloc | apply pw_below_drewN | apply below_drew1) | exact HB.out)) hb); have n1_ := Aside0.mk (hbox); have n2_ := Aside0.mk ((by rw [hg]; exact (below_size (by repeat (first | (with_reducible first | exact HB.out | apply below_alloc | apply pw_below_drewN | apply below_drew1) | exact HB.out))) : w.heap.size ≤ gb225)); have n3_ := Aside0.mk ((by rw [hg]; exact (below_size (by repeat (first | (with_reducible first | exact HB.out | apply below_alloc | apply pw_below_drewN | apply below_drew1) | exact HB.out))) : w.heap.size ≤ gb225)); clear HB; have HB := n0_; have BK225 := n1_; have GW225 := n2_; have GE225 := n3_; clear n0_ n1_ n2_ n3_; clear hb hbox hg) | ((with_reducible refine gate_callee (f := 33) rfl ?_); refine goesL_ (some 11) rfl rfl Try.func33 (by kernel_rfl) rfl #[.int .i64 a0] rfl (by (try simp only [List.map_toArray, List.map_cons, List.map_nil]); first | done | rfl | (simp only [List.length_drop, List.length_take]; rfl)) ?_; (with_reducible refine (cell_known.calls a0 true _ A4.out).mono ?_); rintro e w' ⟨rfl, ⟨nd, rfl⟩⟩; refine ⟨_, rfl, ?_⟩; have hcz31_0 : w30.cell? ⟨gb225, 0, none⟩ = some (.int .i64 a1_0) := (blk_cell BK225.out 0).trans rfl; have hcz31_1 : w30.cell? ⟨gb225, 1, none⟩ = some (.int .i64 a1_1) := (blk_cell BK225.out 1).trans rfl; have hcz31_2 : w30.cell? ⟨gb225, 2, none⟩ = some (.int .i64 a1_2) := (blk_cell BK225.out 2).trans rfl; have hcz31_3 : w30.cell? ⟨gb225, 3, none⟩ = some (.int .i64 a1_3) := (blk_cell BK225.out 3).trans rfl; have hcz31_4 : w30.cell? ⟨gb225, 4, none⟩ = some (.int .i64 a1_4) := (blk_cell BK225.out 4).trans rfl; have hfz31_0 := blk_frozen BK225.out 0; have hfz31_1 := blk_frozen BK225.out 1; have hfz31_2 := blk_frozen BK225.out 2; have hfz31_3 := blk_frozen BK225.out 3; have hfz31_4 := blk_frozen BK225.out 4) | ((with_reducible refine gate_callee (f := 16) rfl ?_); refine goesL_ (some 15) rfl rfl Try.func16 (by kernel_rfl) rfl #[.agg #[.int .i64 a1_0, .int .i64 a1_1, .int .i64 a1_2, .int .i64 a1_3, .int .i64 a1_4], .string a2] rfl (by (try simp only [List.map_toArray, List.map_cons, List.map_nil]); first | done | rfl | (simp only [List.length_drop, List.length_take]; rfl)) ?_; (with_reducible refine (spec_Value.calls k a1_0 a1_1 a1_2 a1_3 a1_4 a2 t227 _ A6.out).mono ?_); rintro e w32 ⟨rfl, hb⟩; refine ⟨_, rfl, ?_⟩; have n0_ := Aside0.mk (blk_below (g := gb225) (o := .cells #[.int .i64 a1_0, .int .i64 a1_1, .int .i64 a1_2, .int .i64 a1_3, .int .i64 a1_4] 23 (0, 0)) (by (with_reducible repeat (first | refine blk_drewN ?_ _ | refine blk_drew ?_ | refine blk_alloc ?_ _)); exact BK225.out) hb); have n1_ := Aside0.mk (below_step (by repeat (first | (with_reducible first | exact HB.out | apply below_alloc | apply pw_below_drewN | apply below_drew1 | refine below_set ?_ GE225.out) | exact HB.out)) hb); clear BK225; clear HB; have BK225 := n0_; have HB := n1_; clear n0_ n1_; (try clear hb); (try clear hb2); (try clear hk); (try clear hi)))
   go_ret2
   exact ⟨by first | rfl | (simp [errW_none, errW_some] <;> rfl) | (simp [*, errW_none, errW_some] <;> rfl), by repeat (first | (with_reducible first | exact HB.out | apply below_alloc | apply pw_below_drewN | apply below_drew1 | refine below_set ?_ GE225.out) | exact HB.out)⟩
 ·replace c5 := Bool.eq_false_iff.mpr c5
  subst c5
  have H1 : (some ((⟨#[]⟩ : ByteArray), 1)) = some (r1, r2) := by rw [if_neg (show ¬ (false = true) by decide)] at H; exact H
  clear H
  have H := H1
  clear H1
  simp only [Option.some.injEq, Prod.mk.injEq] at H
  obtain ⟨rfl, rfl⟩ := H
  go_enter Try.func21, Try.ntmps21
  go_wp2_with (first | ((with_reducible refine gate_dst (N := 4) rfl ?_); refine box_event ?hg (N := 4) ?hd (cs := #[.int .i64 a1_0, .int .i64 a1_1, .int .i64 a1_2, .int .i64 a1_3, .int .i64 a1_4]) (t := 23) ?hr ?_; (case hd => rfl); (case hg => rfl); (case hr => first | (go_simp; done) | (go_simp; rfl) | (have hu8_ := IntKind.wrap_u8; go_simp; done) | (have hu8_ := IntKind.wrap_u8; go_simp; rfl) | (go_simp; simp [IntKind.wrap_u8]; done)); intro gb225 hg w33 hbox hb; have n0_ := Aside0.mk (below_step (by repeat (first | (with_reducible first | exact HB.out | apply below_alloc | apply pw_below_drewN | apply below_drew1) | exact HB.out)) hb); have n1_ := Aside0.mk (hbox); have n2_ := Aside0.mk ((by rw [hg]; exact (below_size (by repeat (first | (with_reducible first | exact HB.out | apply below_alloc | apply pw_below_drewN | apply below_drew1) | exact HB.out))) : w.heap.size ≤ gb225)); have n3_ := Aside0.mk ((by rw [hg]; exact (below_size (by repeat (first | (with_reducible first | exact HB.out | apply below_alloc | apply pw_below_drewN | apply below_drew1) | exact HB.out))) : w.heap.size ≤ gb225)); clear HB; have HB := n0_; have BK225 := n1_; have GW225 := n2_; have GE225 := n3_; clear n0_ n1_ n2_ n3_; clear hb hbox hg) | ((with_reducible refine gate_callee (f := 33) rfl ?_); refine goesL_ (some 11) rfl rfl Try.func33 (by kernel_rfl) rfl #[.int .i64 a0] rfl (by (try simp only [List.map_toArray, List.map_cons, List.map_nil]); first | done | rfl | (simp only [List.length_drop, List.length_take]; rfl)) ?_; (with_reducible refine (cell_known.calls a0 false _ A4.out).mono ?_); rintro e w' ⟨rfl, ⟨nd, rfl⟩⟩; refine ⟨_, rfl, ?_⟩))
  go_ret2
  exact ⟨by first | rfl | (simp [errW_none, errW_some] <;> rfl) | (simp [*, errW_none, errW_some] <;> rfl), by repeat (first | (with_reducible first | exact HB.out | apply below_alloc | apply pw_below_drewN | apply below_drew1 | refine below_set ?_ GE225.out) | exact HB.out)⟩
/-! ### bcd_Size: function 41 -/
def bcd_Size.f (a0 : Int) : Option (Int) := if a0 < 1 then (some 0) else (some (wrap64 ((wrap64 (Int.tdiv a0 2)) + (Int.tmod a0 2))))
set_option maxHeartbeats 8000000 in
set_option maxRecDepth 100000 in
theorem bcd_Size.calls (a0 : Int) (r : Int) (w : World) (h : bcd_Size.f a0 = some r) :
  Calls Try.prog 41 #[.int .i64 a0] w fun e w' => e = .returned (.int .i64 r) ∧ Drawn0 w w' := by
 have H : (if a0 < 1 then (some 0) else (some (wrap64 ((wrap64 (Int.tdiv a0 2)) + (Int.tmod a0 2))))) = some r := h
 clear h
 by_cases c2 : a0 < 1
 ·rw [if_pos c2] at H
  have c2b0 : decide (a0 < 1) = true := decide_eq_true c2
  clear c2
  obtain rfl := Option.some.inj H
  go_enter Try.func41, Try.ntmps41
  go_wp2
  go_ret
  exact ⟨by first | rfl | (simp; done) | (simp [*]; done) | (simp [wrap64]; done), by repeat (first | exact Drawn0.refl _ | apply Drawn0.step)⟩
 ·rw [if_neg c2] at H
  have c2b0 : decide (a0 < 1) = false := decide_eq_false c2
  clear c2
  obtain rfl := Option.some.inj H
  go_enter Try.func41, Try.ntmps41
  go_wp2
  go_ret
  exact ⟨by first | rfl | (simp; done) | (simp [*]; done) | (simp [wrap64]; done), by repeat (first | exact Drawn0.refl _ | apply Drawn0.step)⟩
/-! ### bcd_Get: function 42 -/
mutual
def bcd_Get.j0 : Nat → ByteArray → Int → Bool → Option (ByteArray × Int × Int)
 | 0, _, _, _ => none
 | k + 1, x0, x1, x11 => if x11 = true then (some ((⟨#[]⟩ : ByteArray), 1, 0)) else ((bcd_Size.f x1).bind fun t234 => (if (x0.size : Int) < t234 then (some ((⟨#[]⟩ : ByteArray), 2, (x0.size : Int))) else (if 0 ≤ (wrap64 (x1 + 1)) then (if (wrap64 (x1 + 1) : Int).toNat ≤ 281474976710656 then (bcd_Get.l0 k x0 x1 (([] : List Int)) t234 0) else (none)) else (none))))
def bcd_Get.l0 : Nat → ByteArray → Int → List Int → Int → Int → Option (ByteArray × Int × Int)
 | 0, _, _, _, _, _ => none
 | k + 1, x0, x1, x7, x30, x31 => if x31 < x30 then (if 0 ≤ x31 then (if x31 < (x0.size : Int) then (if x31 = 0 then (if (Int.tmod x1 2) = 0 then (bcd_Get.j2 k x0 x1 x7 x31 ((bt x0 x31) / 16) (Go.bits .and .u8 (bt x0 x31) 15) x30 x31 false) else (bcd_Get.j2 k x0 x1 x7 x31 ((bt x0 x31) / 16) (Go.bits .and .u8 (bt x0 x31) 15) x30 x31 (((bt x0 x31) / 16) != 0))) else (bcd_Get.j2 k x0 x1 x7 x31 ((bt x0 x31) / 16) (Go.bits .and .u8 (bt x0 x31) 15) x30 x31 false)) else (none)) else (none)) else (if 0 ≤ (Int.tmod x1 2) then (if (Int.tmod x1 2) ≤ (x7.length : Int) then (some (strOfNums (x7.drop ((Int.tmod x1 2) : Int).toNat), 0, 0)) else (none)) else (none))
def bcd_Get.j2 : Nat → ByteArray → Int → List Int → Int → Int → Int → Int → Int → Bool → Option (ByteArray × Int × Int)
 | 0, _, _, _, _, _, _, _, _, _ => none
 | k + 1, x0, x1, x7, x8, x9, x10, x30, x31, x42 => if x42 = true then (some ((⟨#[]⟩ : ByteArray), 4, 0)) else (if x9 > 9 then (some ((⟨#[]⟩ : ByteArray), 3, x8)) else (if x10 > 9 then (some ((⟨#[]⟩ : ByteArray), 3, x8)) else ((some (([(48 + x9) % 256, (48 + x10) % 256] : List Int) : List Int)).bind fun y242 => (if x7.length + y242.length < 140737488355328 then (bcd_Get.l0 k x0 x1 (x7 ++ y242) x30 (wrap64 (x31 + 1))) else (none)))))
end
def bcd_Get.f (k : Nat) (a0 : ByteArray) (a1 : Int) : Option (ByteArray × Int × Int) := if a1 < 0 then (bcd_Get.j0 k a0 a1 true) else (bcd_Get.j0 k a0 a1 (decide (a1 > 999)))
theorem bcd_Get.mono_l : ∀ k, (∀ y0 y1 y2, LeO (bcd_Get.j0 k y0 y1 y2) (bcd_Get.j0 (k + 1) y0 y1 y2)) ∧ (∀ y0 y1 y2 y3 y4, LeO (bcd_Get.l0 k y0 y1 y2 y3 y4) (bcd_Get.l0 (k + 1) y0 y1 y2 y3 y4)) ∧ (∀ y0 y1 y2 y3 y4 y5 y6 y7 y8, LeO (bcd_Get.j2 k y0 y1 y2 y3 y4 y5 y6 y7 y8) (bcd_Get.j2 (k + 1) y0 y1 y2 y3 y4 y5 y6 y7 y8))
 | 0 => ⟨fun _ _ _ r h => by simp [bcd_Get.j0] at h, fun _ _ _ _ _ r h => by simp [bcd_Get.l0] at h, fun _ _ _ _ _ _ _ _ _ r h => by simp [bcd_Get.j2] at h⟩
 | k + 1 => by
  obtain ⟨ih0, ih1, ih2⟩ := bcd_Get.mono_l k
  refine ⟨?_, ?_, ?_⟩
  ·intro y0 y1 y2
   unfold bcd_Get.j0
   repeat' first
   | (with_reducible exact ih0 _ _ _)
   | (with_reducible exact ih1 _ _ _ _ _)
   | (with_reducible exact ih2 _ _ _ _ _ _ _ _ _)
   | (with_reducible exact LeO.refl _)
   | (with_reducible exact LeO.none _)
   | (with_reducible refine LeO.ite ?_ ?_)
   | (with_reducible refine LeO.bind ?_ (fun _ => ?_))
   | exact ih0 _ _ _
   | exact ih1 _ _ _ _ _
   | exact ih2 _ _ _ _ _ _ _ _ _
   | exact LeO.none _
   | refine LeO.ite ?_ ?_
   | refine LeO.bind ?_ (fun _ => ?_)
  ·intro y0 y1 y2 y3 y4
   unfold bcd_Get.l0
   repeat' first
   | (with_reducible exact ih0 _ _ _)
   | (with_reducible exact ih1 _ _ _ _ _)
   | (with_reducible exact ih2 _ _ _ _ _ _ _ _ _)
   | (with_reducible exact LeO.refl _)
   | (with_reducible exact LeO.none _)
   | (with_reducible refine LeO.ite ?_ ?_)
   | (with_reducible refine LeO.bind ?_ (fun _ => ?_))
   | exact ih0 _ _ _
   | exact ih1 _ _ _ _ _
   | exact ih2 _ _ _ _ _ _ _ _ _
   | exact LeO.none _
   | refine LeO.ite ?_ ?_
   | refine LeO.bind ?_ (fun _ => ?_)
  ·intro y0 y1 y2 y3 y4 y5 y6 y7 y8
   unfold bcd_Get.j2
   repeat' first
   | (with_reducible exact ih0 _ _ _)
   | (with_reducible exact ih1 _ _ _ _ _)
   | (with_reducible exact ih2 _ _ _ _ _ _ _ _ _)
   | (with_reducible exact LeO.refl _)
   | (with_reducible exact LeO.none _)
   | (with_reducible refine LeO.ite ?_ ?_)
   | (with_reducible refine LeO.bind ?_ (fun _ => ?_))
   | exact ih0 _ _ _
   | exact ih1 _ _ _ _ _
   | exact ih2 _ _ _ _ _ _ _ _ _
   | exact LeO.none _
   | refine LeO.ite ?_ ?_
   | refine LeO.bind ?_ (fun _ => ?_)
theorem bcd_Get.mono : ∀ a0 a1 k, LeO (bcd_Get.f k a0 a1) (bcd_Get.f (k + 1) a0 a1) := by
 intro a0 a1 k
 obtain ⟨ih0, ih1, ih2⟩ := bcd_Get.mono_l k
 unfold bcd_Get.f
 repeat' first
   | (with_reducible exact ih0 _ _ _)
   | (with_reducible exact ih1 _ _ _ _ _)
   | (with_reducible exact ih2 _ _ _ _ _ _ _ _ _)
   | (with_reducible exact LeO.refl _)
   | (with_reducible exact LeO.none _)
   | (with_reducible refine LeO.ite ?_ ?_)
   | (with_reducible refine LeO.bind ?_ (fun _ => ?_))
   | exact ih0 _ _ _
   | exact ih1 _ _ _ _ _
   | exact ih2 _ _ _ _ _ _ _ _ _
   | exact LeO.none _
   | refine LeO.ite ?_ ?_
   | refine LeO.bind ?_ (fun _ => ?_)
set_option maxHeartbeats 8000000 in
set_option maxRecDepth 100000 in
theorem bcd_Get.calls (k : Nat) (a0 : ByteArray) (a1 : Int) (r1 : ByteArray) (r2 : Int) (r3 : Int) (w : World) (h : bcd_Get.f k a0 a1 = some (r1, r2, r3)) :
  Calls Try.prog 42 #[.string a0, .int .i64 a1] w fun e w' => e = .returned (.tuple #[.string r1, .int .i64 r2, .int .i64 r3]) ∧ Below w.heap.size w w' := by
 have HB := Aside0.mk (Below.refl w.heap.size w)
 have H : (if a1 < 0 then (bcd_Get.j0 k a0 a1 true) else (bcd_Get.j0 k a0 a1 (decide (a1 > 999)))) = some (r1, r2, r3) := h
 clear h
 have HC3 := Aside0.mk H
 clear H
 go_enter Try.func42, Try.ntmps42
 go_upto_region 1 with (fail)
 repeat (go_quiet (fail); go_upto_region 1 with (fail))
 go_cut [11] (fun v11 wc => ∃ (kq : Nat) (x11_2 : Bool), v11 = .bool x11_2 ∧ Aside0 (bcd_Get.j0 kq a0 a1 x11_2 = some (r1, r2, r3)) ∧ Aside0 (kq ≤ k) ∧ Aside0 (Below w.heap.size w wc))
 case first =>
  have H := HC3.out
  clear HC3
  by_cases c4 : a1 < 0
  ·rw [if_pos c4] at H
   have c4b0 : decide (a1 < 0) = true := decide_eq_true c4
   clear c4
   (first | rw [c4b0] | (simp only [i64_w, i32_w]; rw [c4b0]) | skip)
   have H' := Aside0.mk H
   clear H
   go_wp2
   repeat (go_quiet (fail); try go_wp2)
   go_meet
   case rel => exact ⟨_, (true), (by first | rfl | (simp; done) | (simp [*]; done) | (simp [wrap64]; done)), H', ⟨by first | omega | exact Nat.le_refl _⟩, ⟨by repeat (first | (with_reducible first | exact HB.out | apply below_alloc | apply pw_below_drewN | apply below_drew1) | exact HB.out)⟩⟩
  ·rw [if_neg c4] at H
   have c4b0 : decide (a1 < 0) = false := decide_eq_false c4
   clear c4
   (first | rw [c4b0] | (simp only [i64_w, i32_w]; rw [c4b0]) | skip)
   have H' := Aside0.mk H
   clear H
   go_wp2
   repeat (go_quiet (fail); try go_wp2)
   go_meet
   case rel => exact ⟨_, (decide (a1 > 999)), (by first | rfl | (simp; done) | (simp [*]; done) | (simp [wrap64]; done)), H', ⟨by first | omega | exact Nat.le_refl _⟩, ⟨by repeat (first | (with_reducible first | exact HB.out | apply below_alloc | apply pw_below_drewN | apply below_drew1) | exact HB.out)⟩⟩
 case rest =>
  clear HC3
  try clear p2
  try clear c4
  try clear c4b0
  obtain ⟨kq, x11_2, rfl, HA, HJ2, HB⟩ := hcut
  cases kq with
  | zero => exact absurd HA.out (by simp [bcd_Get.j0])
  | succ kj2 =>
   have H := HA.out
   clear HA
   simp only [bcd_Get.j0] at H
   by_cases c5 : x11_2 = true
   ·subst c5
    have H1 : (some ((⟨#[]⟩ : ByteArray), 1, 0)) = some (r1, r2, r3) := by rw [if_pos rfl] at H; exact H
    clear H
    have H := H1
    clear H1
    simp only [Option.some.injEq, Prod.mk.injEq] at H
    obtain ⟨rfl, rfl, rfl⟩ := H
    go_wp2
    repeat (go_quiet (fail); try go_wp2)
    go_ret3
    exact ⟨by first | rfl | (simp [errW_none, errW_some] <;> rfl) | (simp [*, errW_none, errW_some] <;> rfl), by repeat (first | (with_reducible first | exact HB.out | apply below_alloc | apply pw_below_drewN | apply below_drew1) | exact HB.out)⟩
   ·replace c5 := Bool.eq_false_iff.mpr c5
    subst c5
    have H1 : ((bcd_Size.f a1).bind fun t234 => (if (a0.size : Int) < t234 then (some ((⟨#[]⟩ : ByteArray), 2, (a0.size : Int))) else (if 0 ≤ (wrap64 (a1 + 1)) then (if (wrap64 (a1 + 1) : Int).toNat ≤ 281474976710656 then (bcd_Get.l0 kj2 a0 a1 (([] : List Int)) t234 0) else (none)) else (none)))) = some (r1, r2, r3) := by rw [if_neg (show ¬ (false = true) by decide)] at H; exact H
    clear H
    have H := H1
    clear H1
    replace H := Option.bind_eq_some_iff.mp H
    obtain ⟨t234, A60, H⟩ := H
    replace H : (if (a0.size : Int) < t234 then (some ((⟨#[]⟩ : ByteArray), 2, (a0.size : Int))) else (if 0 ≤ (wrap64 (a1 + 1)) then (if (wrap64 (a1 + 1) : Int).toNat ≤ 281474976710656 then (bcd_Get.l0 kj2 a0 a1 (([] : List Int)) t234 0) else (none)) else (none))) = some (r1, r2, r3) := H
    have A6 := Aside0.mk A60
    clear A60
    by_cases c7 : (a0.size : Int) < t234
    ·rw [if_pos c7] at H
     have c7b0 : decide ((a0.size : Int) < t234) = true := decide_eq_true c7
     clear c7
     simp only [Option.some.injEq, Prod.mk.injEq] at H
     obtain ⟨rfl, rfl, rfl⟩ := H
     go_wp2_with (first | (go_at_call 41; (with_reducible refine (bcd_Size.calls a1 t234 _ A6.out).mono ?_); rintro e w' ⟨rfl, ⟨nd, rfl⟩⟩; (try first | exact ⟨rfl, _, World.drewN_drewN _ _ _⟩ | exact ⟨rfl, _, Eq.trans (World.drewN_drewN _ _ _) (congrArg (World.drewN _) (Nat.add_assoc _ _ _))⟩)))
     repeat (go_quiet (first | (go_at_call 41; (with_reducible refine (bcd_Size.calls a1 t234 _ A6.out).mono ?_); rintro e w' ⟨rfl, ⟨nd, rfl⟩⟩; (try first | exact ⟨rfl, _, World.drewN_drewN _ _ _⟩ | exact ⟨rfl, _, Eq.trans (World.drewN_drewN _ _ _) (congrArg (World.drewN _) (Nat.add_assoc _ _ _))⟩))); try go_wp2_with (first | (go_at_call 41; (with_reducible refine (bcd_Size.calls a1 t234 _ A6.out).mono ?_); rintro e w' ⟨rfl, ⟨nd, rfl⟩⟩; (try first | exact ⟨rfl, _, World.drewN_drewN _ _ _⟩ | exact ⟨rfl, _, Eq.trans (World.drewN_drewN _ _ _) (congrArg (World.drewN _) (Nat.add_assoc _ _ _))⟩))))
     go_ret3
     exact ⟨by first | rfl | (simp [errW_none, errW_some] <;> rfl) | (simp [*, errW_none, errW_some] <;> rfl), by repeat (first | (with_reducible first | exact HB.out | apply below_alloc | apply pw_below_drewN | apply below_drew1) | exact HB.out)⟩
    ·rw [if_neg c7] at H
     have c7b0 : decide ((a0.size : Int) < t234) = false := decide_eq_false c7
     clear c7
     obtain ⟨ji8, hji8⟩ : ∃ j_ : Int, (wrap64 (a1 + 1)) = j_ := ⟨_, rfl⟩
     replace H : (if 0 ≤ (ji8) then (if (ji8 : Int).toNat ≤ 281474976710656 then (bcd_Get.l0 kj2 a0 a1 (([] : List Int)) t234 0) else (none)) else (none)) = some (r1, r2, r3) := by first | (rw [hji8] at H; exact H) | (simp only [hji8] at H ⊢; exact H)
     (try rw [hji8] at A6)
     have hji8w : (IntKind.i64.wrap (a1 + 1)) = ji8 := (i64_w _).trans hji8
     by_cases c9 : 0 ≤ (ji8)
     ·rw [if_pos c9] at H
      have c9b0 := eq_true c9
      have c9b1 : decide (0 ≤ (ji8)) = true := decide_eq_true c9
      clear c9
      by_cases c10 : (ji8 : Int).toNat ≤ 281474976710656
      ·rw [if_pos c10] at H
       have c10b0 := eq_true c10
       have c10b1 : decide ((ji8 : Int).toNat ≤ 281474976710656) = true := decide_eq_true c10
       clear c10
       obtain ⟨y235, hy235⟩ : ∃ y_ : List Int, y_ = (([] : List Int)) := ⟨_, rfl⟩
       replace H : (bcd_Get.l0 kj2 a0 a1 y235 t234 0) = some (r1, r2, r3) := by first | (rw [hy235]; with_reducible exact H) | (have H2_ := (Option.bind_some _ _).symm.trans H; rw [hy235]; with_reducible exact H2_) | (have H2_ := (Option.bind_some _ _).symm.trans H; with_reducible exact H2_) | with_reducible exact H | (rw [hy235]; exact H) | exact H
       have Ny235 := Aside0.mk hy235
       clear hy235
       have H' := Aside0.mk H
       clear H
       go_wp2_with (first | (go_at_call 41; (with_reducible refine (bcd_Size.calls a1 t234 _ A6.out).mono ?_); rintro e w' ⟨rfl, ⟨nd, rfl⟩⟩; (try first | exact ⟨rfl, _, World.drewN_drewN _ _ _⟩ | exact ⟨rfl, _, Eq.trans (World.drewN_drewN _ _ _) (congrArg (World.drewN _) (Nat.add_assoc _ _ _))⟩)) | ((with_reducible refine gate_dst (N := 28) rfl ?_); refine Kd.R_makecap (Kd.int .u8) _ 5 rfl (N := 28) rfl 80 _ _ rfl ji8 rfl rfl Try.underlying80 (.int .u8 0) 1 info5 rfl (by decide) (by omega) 0 (ok := fun _ => True) (okp := fun _ => True) rfl (fun _ hk => hk) trivial (of_decide_eq_true (by first | (with_reducible assumption) | assumption)) (Nat.le_trans (Nat.mul_le_mul_right _ (of_decide_eq_true (by first | (with_reducible assumption) | assumption) : ji8.toNat ≤ 281474976710656)) (by omega)) (Below.refl _ _) (Nat.le_refl _) ?_; intro v236 w11 ho12 hb hg_ hnew_; clear hg_ hnew_; (first | rw [← Ny235.out] at ho12 | (simp only [Int.reduceToNat] at ho12; rw [← Ny235.out] at ho12)); have n0_ := Aside0.mk (Kd.R_lower ho12 (below_size (by repeat (first | (with_reducible first | exact HB.out | apply below_alloc | apply pw_below_drewN | apply below_drew1) | exact HB.out)))); have n1_ := Aside0.mk (below_step (by repeat (first | (with_reducible first | exact HB.out | apply below_alloc | apply pw_below_drewN | apply below_drew1) | exact HB.out)) hb); clear HB; have HO237 := n0_; have HB := n1_; clear n0_ n1_; clear hb ho12))
       repeat (go_quiet (first | (go_at_call 41; (with_reducible refine (bcd_Size.calls a1 t234 _ A6.out).mono ?_); rintro e w' ⟨rfl, ⟨nd, rfl⟩⟩; (try first | exact ⟨rfl, _, World.drewN_drewN _ _ _⟩ | exact ⟨rfl, _, Eq.trans (World.drewN_drewN _ _ _) (congrArg (World.drewN _) (Nat.add_assoc _ _ _))⟩)) | ((with_reducible refine gate_dst (N := 28) rfl ?_); refine Kd.R_makecap (Kd.int .u8) _ 5 rfl (N := 28) rfl 80 _ _ rfl ji8 rfl rfl Try.underlying80 (.int .u8 0) 1 info5 rfl (by decide) (by omega) 0 (ok := fun _ => True) (okp := fun _ => True) rfl (fun _ hk => hk) trivial (of_decide_eq_true (by first | (with_reducible assumption) | assumption)) (Nat.le_trans (Nat.mul_le_mul_right _ (of_decide_eq_true (by first | (with_reducible assumption) | assumption) : ji8.toNat ≤ 281474976710656)) (by omega)) (Below.refl _ _) (Nat.le_refl _) ?_; intro v236 w11 ho12 hb hg_ hnew_; clear hg_ hnew_; (first | rw [← Ny235.out] at ho12 | (simp only [Int.reduceToNat] at ho12; rw [← Ny235.out] at ho12)); have n0_ := Aside0.mk (Kd.R_lower ho12 (below_size (by repeat (first | (with_reducible first | exact HB.out | apply below_alloc | apply pw_below_drewN | apply below_drew1) | exact HB.out)))); have n1_ := Aside0.mk (below_step (by repeat (first | (with_reducible first | exact HB.out | apply below_alloc | apply pw_below_drewN | apply below_drew1) | exact HB.out)) hb); clear HB; have HO237 := n0_; have HB := n1_; clear n0_ n1_; clear hb ho12)); try go_wp2_with (first | (go_at_call 41; (with_reducible refine (bcd_Size.calls a1 t234 _ A6.out).mono ?_); rintro e w' ⟨rfl, ⟨nd, rfl⟩⟩; (try first | exact ⟨rfl, _, World.drewN_drewN _ _ _⟩ | exact ⟨rfl, _, Eq.trans (World.drewN_drewN _ _ _) (congrArg (World.drewN _) (Nat.add_assoc _ _ _))⟩)) | ((with_reducible refine gate_dst (N := 28) rfl ?_); refine Kd.R_makecap (Kd.int .u8) _ 5 rfl (N := 28) rfl 80 _ _ rfl ji8 rfl rfl Try.underlying80 (.int .u8 0) 1 info5 rfl (by decide) (by omega) 0 (ok := fun _ => True) (okp := fun _ => True) rfl (fun _ hk => hk) trivial (of_decide_eq_true (by first | (with_reducible assumption) | assumption)) (Nat.le_trans (Nat.mul_le_mul_right _ (of_decide_eq_true (by first | (with_reducible assumption) | assumption) : ji8.toNat ≤ 281474976710656)) (by omega)) (Below.refl _ _) (Nat.le_refl _) ?_; intro v236 w11 ho12 hb hg_ hnew_; clear hg_ hnew_; (first | rw [← Ny235.out] at ho12 | (simp only [Int.reduceToNat] at ho12; rw [← Ny235.out] at ho12)); have n0_ := Aside0.mk (Kd.R_lower ho12 (below_size (by repeat (first | (with_reducible first | exact HB.out | apply below_alloc | apply pw_below_drewN | apply below_drew1) | exact HB.out)))); have n1_ := Aside0.mk (below_step (by repeat (first | (with_reducible first | exact HB.out | apply below_alloc | apply pw_below_drewN | apply below_drew1) | exact HB.out)) hb); clear HB; have HO237 := n0_; have HB := n1_; clear n0_ n1_; clear hb ho12)))
       go_loopg [7, 31] kj2 (fun kq v7 v31 w' => ∃ (x7_2 : List Int) (x31_2 : Int), v31 = .int .i64 x31_2 ∧ Aside0 (bcd_Get.l0 kq a0 a1 x7_2 t234 x31_2 = some (r1, r2, r3)) ∧ Aside0 (kq ≤ kj2) ∧ Aside0 (Kd.R (Kd.int .u8) 5 w' w.heap.size (fun _ => True) v7 x7_2) ∧ Aside0 (Below w.heap.size w w'))
       case atStart => exact ⟨(y235), (0), (by first | rfl | (simp; done) | (simp [*]; done) | (simp [wrap64]; done)), H', ⟨Nat.le_refl _⟩, ⟨by (with_reducible repeat (first | apply Kd.R_alloc | apply Kd.R_drewN | apply Kd.R_drew)); exact HO237.out⟩, ⟨by repeat (first | (with_reducible first | exact HB.out | apply below_alloc | apply pw_below_drewN | apply below_drew1) | exact HB.out)⟩⟩
       case round =>
        clear H'
        try clear c1
        try clear p2
        try clear c4
        try clear c4b0
        try clear c5
        try clear p6
        try clear c7
        try clear c7b0
        try clear c9
        try clear c9b0
        try clear c9b1
        try clear c10
        try clear c10b0
        try clear c10b1
        try clear p2
        obtain ⟨x7_2, x31_2, rfl, HA, HK2, HO_7, HB⟩ := hrel
        cases gk with
        | zero => exact absurd HA.out (by simp [bcd_Get.l0])
        | succ k2 =>
         have H := HA.out
         clear HA
         simp only [bcd_Get.l0] at H
         by_cases c13 : x31_2 < t234
         ·rw [if_pos c13] at H
          have c13b0 : decide (x31_2 < t234) = true := decide_eq_true c13
          clear c13
          by_cases c14 : 0 ≤ x31_2
          ·rw [if_pos c14] at H
           have c14b0 : decide (0 ≤ x31_2) = true := decide_eq_true c14
           clear c14
           by_cases c15 : x31_2 < (a0.size : Int)
           ·rw [if_pos c15] at H
            have c15b0 : decide (x31_2 < (a0.size : Int)) = true := decide_eq_true c15
            clear c15
            have HC18 := Aside0.mk H
            clear H
            have p16 : 0 ≤ (x31_2 : Int) := of_decide_eq_true (by first | (with_reducible assumption) | assumption)
            have q16 : x31_2 < (a0.size : Int) := of_decide_eq_true (by first | (with_reducible assumption) | assumption)
            have hx16 := bt_at a0 x31_2
            replace p16 := eq_true p16
            replace q16 := eq_true q16
            have p17 : 0 ≤ (x31_2 : Int) := of_decide_eq_true (by first | (with_reducible assumption) | assumption)
            have q17 : x31_2 < (a0.size : Int) := of_decide_eq_true (by first | (with_reducible assumption) | assumption)
            have hx17 := bt_at a0 x31_2
            replace p17 := eq_true p17
            replace q17 := eq_true q17
            go_upto_region 10 with (fail)
            repeat (go_quiet (fail); go_upto_region 10 with (fail))
            go_cut [42] (fun v42 wc => ∃ (kq : Nat) (x42_17 : Bool), v42 = .bool x42_17 ∧ Aside0 (bcd_Get.j2 kq a0 a1 x7_2 x31_2 ((bt a0 x31_2) / 16) (Go.bits .and .u8 (bt a0 x31_2) 15) t234 x31_2 x42_17 = some (r1, r2, r3)) ∧ Aside0 (kq ≤ k2) ∧ Aside0 (Kd.R (Kd.int .u8) 5 wc w.heap.size (fun _ => True) u7 x7_2) ∧ Aside0 (Below w.heap.size w wc))
            case first =>
             have H := HC18.out
             clear HC18
             by_cases c19 : x31_2 = 0
             ·rw [if_pos c19] at H
              have c19b0 : (x31_2 == 0) = true := beq_iff_eq.mpr c19
              have c19b1 : (x31_2 != 0) = false := bne_eq_false_iff_eq.mpr c19
              clear c19
              (first | rw [c19b0] | (simp only [i64_w, i32_w]; rw [c19b0]) | skip)
              by_cases c20 : (Int.tmod a1 2) = 0
              ·rw [if_pos c20] at H
               have c20b0 : ((Int.tmod a1 2) == 0) = true := beq_iff_eq.mpr c20
               have c20b1 : ((Int.tmod a1 2) != 0) = false := bne_eq_false_iff_eq.mpr c20
               clear c20
               have H' := Aside0.mk H
               clear H
               go_wp2
               repeat (go_quiet (fail); try go_wp2)
               go_meet
               case rel => exact ⟨_, (false), (by first | rfl | (simp; done) | (simp [*]; done) | (simp [wrap64]; done)), H', ⟨by have := HJ2.out; have := HK2.out; first | omega | exact Nat.le_refl _⟩, ⟨by (with_reducible repeat (first | apply Kd.R_alloc | apply Kd.R_drewN | apply Kd.R_drew)); exact HO_7.out⟩, ⟨by repeat (first | (with_reducible first | exact HB.out | apply below_alloc | apply pw_below_drewN | apply below_drew1) | exact HB.out)⟩⟩
              ·rw [if_neg c20] at H
               have c20b0 : ((Int.tmod a1 2) == 0) = false := beq_eq_false_iff_ne.mpr c20
               have c20b1 : ((Int.tmod a1 2) != 0) = true := bne_iff_ne.mpr c20
               have H' := Aside0.mk H
               clear H
               go_wp2
               repeat (go_quiet (fail); try go_wp2)
               go_meet
               case rel => exact ⟨_, ((((bt a0 x31_2) / 16) != 0)), (by first | rfl | (simp; done) | (simp [*]; done) | (simp [wrap64]; done)), H', ⟨by have := HJ2.out; have := HK2.out; first | omega | exact Nat.le_refl _⟩, ⟨by (with_reducible repeat (first | apply Kd.R_alloc | apply Kd.R_drewN | apply Kd.R_drew)); exact HO_7.out⟩, ⟨by repeat (first | (with_reducible first | exact HB.out | apply below_alloc | apply pw_below_drewN | apply below_drew1) | exact HB.out)⟩⟩
             ·rw [if_neg c19] at H
              have c19b0 : (x31_2 == 0) = false := beq_eq_false_iff_ne.mpr c19
              have c19b1 : (x31_2 != 0) = true := bne_iff_ne.mpr c19
              (first | rw [c19b0] | (simp only [i64_w, i32_w]; rw [c19b0]) | skip)
              have H' := Aside0.mk H
              clear H
              go_wp2
              repeat (go_quiet (fail); try go_wp2)
              go_meet
              case rel => exact ⟨_, (false), (by first | rfl | (simp; done) | (simp [*]; done) | (simp [wrap64]; done)), H', ⟨by have := HJ2.out; have := HK2.out; first | omega | exact Nat.le_refl _⟩, ⟨by (with_reducible repeat (first | apply Kd.R_alloc | apply Kd.R_drewN | apply Kd.R_drew)); exact HO_7.out⟩, ⟨by repeat (first | (with_reducible first | exact HB.out | apply below_alloc | apply pw_below_drewN | apply below_drew1) | exact HB.out)⟩⟩
            case rest =>
             clear HC18
             try clear c1
             try clear p1
             try clear q1
             try clear hx1
             try clear c2
             try clear p2
             try clear c4
             try clear c4b0
             try clear c5
             try clear p6
             try clear c7
             try clear c7b0
             try clear c9
             try clear c9b0
             try clear c9b1
             try clear c10
             try clear c10b0
             try clear c10b1
             try clear c13
             try clear c13b0
             try clear c14
             try clear c14b0
             try clear c15
             try clear c15b0
             try clear p16
             try clear q16
             try clear hx16
             try clear p17
             try clear q17
             try clear hx17
             try clear c19
             try clear c19b0
             try clear c19b1
             try clear c20
             try clear c20b0
             try clear c20b1
             try clear p16
             try clear p17
             try clear p2
             try clear p6
             try clear q16
             try clear q17
             obtain ⟨kq, x42_17, rfl, HA, HJ17, HO_7, HB⟩ := hcut
             cases kq with
             | zero => exact absurd HA.out (by simp [bcd_Get.j2])
             | succ kj17 =>
              have H := HA.out
              clear HA
              simp only [bcd_Get.j2] at H
              by_cases c21 : x42_17 = true
              ·subst c21
               have H1 : (some ((⟨#[]⟩ : ByteArray), 4, 0)) = some (r1, r2, r3) := by rw [if_pos rfl] at H; exact H
               clear H
               have H := H1
               clear H1
               simp only [Option.some.injEq, Prod.mk.injEq] at H
               obtain ⟨rfl, rfl, rfl⟩ := H
               go_wp2
               repeat (go_quiet (fail); try go_wp2)
               go_ret3
               exact ⟨by first | rfl | (simp [errW_none, errW_some] <;> rfl) | (simp only [← hji8]; first | rfl | (simp [errW_none, errW_some] <;> rfl)) | (simp [*, errW_none, errW_some] <;> rfl), by repeat (first | (with_reducible first | exact HB.out | apply below_alloc | apply pw_below_drewN | apply below_drew1) | exact HB.out)⟩
              ·replace c21 := Bool.eq_false_iff.mpr c21
               subst c21
               have H1 : (if ((bt a0 x31_2) / 16) > 9 then (some ((⟨#[]⟩ : ByteArray), 3, x31_2)) else (if (Go.bits .and .u8 (bt a0 x31_2) 15) > 9 then (some ((⟨#[]⟩ : ByteArray), 3, x31_2)) else ((some (([(48 + ((bt a0 x31_2) / 16)) % 256, (48 + (Go.bits .and .u8 (bt a0 x31_2) 15)) % 256] : List Int) : List Int)).bind fun y242 => (if x7_2.length + y242.length < 140737488355328 then (bcd_Get.l0 kj17 a0 a1 (x7_2 ++ y242) t234 (wrap64 (x31_2 + 1))) else (none))))) = some (r1, r2, r3) := by rw [if_neg (show ¬ (false = true) by decide)] at H; exact H
               clear H
               have H := H1
               clear H1
               by_cases c22 : ((bt a0 x31_2) / 16) > 9
               ·rw [if_pos c22] at H
                have c22b0 : decide (9 < ((bt a0 x31_2) / 16)) = true := decide_eq_true c22
                clear c22
                simp only [Option.some.injEq, Prod.mk.injEq] at H
                obtain ⟨rfl, rfl, rfl⟩ := H
                go_wp2
                repeat (go_quiet (fail); try go_wp2)
                go_ret3
                exact ⟨by first | rfl | (simp [errW_none, errW_some] <;> rfl) | (simp only [← hji8]; first | rfl | (simp [errW_none, errW_some] <;> rfl)) | (simp [*, errW_none, errW_some] <;> rfl), by repeat (first | (with_reducible first | exact HB.out | apply below_alloc | apply pw_below_drewN | apply below_drew1) | exact HB.out)⟩
               ·rw [if_neg c22] at H
                have c22b0 : decide (9 < ((bt a0 x31_2) / 16)) = false := decide_eq_false c22
                clear c22
                by_cases c23 : (Go.bits .and .u8 (bt a0 x31_2) 15) > 9
                ·rw [if_pos c23] at H
                 have c23b0 : decide (9 < (Go.bits .and .u8 (bt a0 x31_2) 15)) = true := decide_eq_true c23
                 clear c23
                 simp only [Option.some.injEq, Prod.mk.injEq] at H
                 obtain ⟨rfl, rfl, rfl⟩ := H
                 go_wp2
                 repeat (go_quiet (fail); try go_wp2)
                 go_ret3
                 exact ⟨by first | rfl | (simp [errW_none, errW_some] <;> rfl) | (simp only [← hji8]; first | rfl | (simp [errW_none, errW_some] <;> rfl)) | (simp [*, errW_none, errW_some] <;> rfl), by repeat (first | (with_reducible first | exact HB.out | apply below_alloc | apply pw_below_drewN | apply below_drew1) | exact HB.out)⟩
                ·rw [if_neg c23] at H
                 have c23b0 : decide (9 < (Go.bits .and .u8 (bt a0 x31_2) 15)) = false := decide_eq_false c23
                 clear c23
                 obtain ⟨y242, hy242⟩ : ∃ y_ : List Int, y_ = (([(48 + ((bt a0 x31_2) / 16)) % 256, (48 + (Go.bits .and .u8 (bt a0 x31_2) 15)) % 256] : List Int)) := ⟨_, rfl⟩
                 replace H : (if x7_2.length + y242.length < 140737488355328 then (bcd_Get.l0 kj17 a0 a1 (x7_2 ++ y242) t234 (wrap64 (x31_2 + 1))) else (none)) = some (r1, r2, r3) := by first | (rw [hy242]; with_reducible exact H) | (have H2_ := (Option.bind_some _ _).symm.trans H; rw [hy242]; with_reducible exact H2_) | (have H2_ := (Option.bind_some _ _).symm.trans H; with_reducible exact H2_) | with_reducible exact H | (rw [hy242]; exact H) | exact H
                 have Ny242 := Aside0.mk hy242
                 clear hy242
                 by_cases c24 : x7_2.length + y242.length < 140737488355328
                 ·rw [if_pos c24] at H
                  have LMc24 := Aside0.mk c24
                  clear c24
                  obtain ⟨y245, hy245⟩ : ∃ y_ : List Int, y_ = (x7_2 ++ y242) := ⟨_, rfl⟩
                  replace H : (bcd_Get.l0 kj17 a0 a1 y245 t234 (wrap64 (x31_2 + 1))) = some (r1, r2, r3) := by first | (rw [hy245]; with_reducible exact H) | (have H2_ := (Option.bind_some _ _).symm.trans H; rw [hy245]; with_reducible exact H2_) | (have H2_ := (Option.bind_some _ _).symm.trans H; with_reducible exact H2_) | with_reducible exact H | (rw [hy245]; exact H) | exact H
                  have Ny245 := Aside0.mk hy245
                  clear hy245
                  have H' := Aside0.mk H
                  clear H
                  go_wp2_with (first | ((with_reducible refine gate_dst (N := 67) rfl ?_); refine Kd.R_lit (Kd.int .u8) _ 5 ?hg (N := 67) ?hd (xs := ([(48 + ((bt a0 x31_2) / 16)) % 256, (48 + (Go.bits .and .u8 (bt a0 x31_2) 15)) % 256] : List Int)) (inner := [.int .u8 ((48 + ((bt a0 x31_2) / 16)) % 256), .int .u8 ((48 + (Go.bits .and .u8 (bt a0 x31_2) 15)) % 256)]) (ok := fun _ => True) (okp := fun _ => True) ?hr ?hp (fun _ hk => hk) trivial (Below.refl _ _) (Nat.le_refl _) (by simp) ?_; (case hd => rfl); (case hg => rfl); (case hr => first | (go_simp; done) | (go_simp; rfl) | (have hu8_ := IntKind.wrap_u8; go_simp; done) | (have hu8_ := IntKind.wrap_u8; go_simp; rfl) | (go_simp; simp [IntKind.wrap_u8]; done)); (case hp => exact (Reps.one (show Kd.M (Kd.int .u8) _ _ _ ((48 + ((bt a0 x31_2) / 16)) % 256) [.int .u8 ((48 + ((bt a0 x31_2) / 16)) % 256)] from rfl) (Reps.one (show Kd.M (Kd.int .u8) _ _ _ ((48 + (Go.bits .and .u8 (bt a0 x31_2) 15)) % 256) [.int .u8 ((48 + (Go.bits .and .u8 (bt a0 x31_2) 15)) % 256)] from rfl) (Reps.none _ _)))); intro v243 w25 ho26 hb hg_ hnew_; clear hg_ hnew_; (first | rw [← Ny242.out] at ho26 | (simp only [Int.reduceToNat] at ho26; rw [← Ny242.out] at ho26)); have n0_ := Aside0.mk (Kd.R_elder' (by (with_reducible repeat (first | apply Kd.R_alloc | apply Kd.R_drewN | apply Kd.R_drew)); exact HO_7.out) (Kd.R_base ho26) hb); have n1_ := Aside0.mk (Kd.R_lower (Kd.R_new' ho26 (Kd.R_lt (by (with_reducible repeat (first | apply Kd.R_alloc | apply Kd.R_drewN | apply Kd.R_drew)); exact HO_7.out))) (below_size (by repeat (first | (with_reducible first | exact HB.out | apply below_alloc | apply pw_below_drewN | apply below_drew1) | exact HB.out)))); have n2_ := Aside0.mk (below_step (by repeat (first | (with_reducible first | exact HB.out | apply below_alloc | apply pw_below_drewN | apply below_drew1) | exact HB.out)) hb); clear HO_7; clear HB; have HO_7 := n0_; have HO244 := n1_; have HB := n2_; clear n0_ n1_ n2_; clear hb ho26; obtain ⟨Ao28, co28, eo28⟩ := Kd.R_slice HO244.out; subst eo28) | ((with_reducible refine gate_builtin (b := .append) (xs := #[.tmp 62, .tmp 67]) rfl ?_); at_builtin; refine Kd.R_append_rows (Kd.int .u8) (w0 := w) w.heap.size rfl (.tmp 62) (.tmp 67) 80 5 (.int .u8 0) 1 rfl Try.underlying80 info5 rfl (by decide) (by omega) u7 x7_2 y242 _ _ _ (fun k_ => some k_ ≠ (.slice Ao28 y242.length co28 : Value).ownBlock) (fun _ => False) rfl rfl ?aO ?aR (fun _ _ h => h) (fun _ h => h.elim) ?aF ?aB ?aS ?aL ?_; (case aR => repeat (first | exact (Kd.R_reads' HO244.out).2.2 | (with_reducible refine Kd.C_alloc ?_ _) | (with_reducible refine Kd.C_drewN ?_ _) | (with_reducible refine Kd.C_drew ?_))); (case aB => exact (by repeat (first | (with_reducible first | exact HB.out | apply below_alloc | apply pw_below_drewN | apply below_drew1) | exact HB.out))); (case aF => exact (fun k_ hk => Kd.fresh' (Kd.R_lt (by (with_reducible repeat (first | apply Kd.R_alloc | apply Kd.R_drewN | apply Kd.R_drew)); exact HO244.out)) k_ hk)); (case aO => exact (by (with_reducible repeat (first | apply Kd.R_alloc | apply Kd.R_drewN | apply Kd.R_drew)); exact Kd.R_mono HO_7.out (fun _ hk => hk.2))); (case aS => exact (below_size (by repeat (first | (with_reducible first | exact HB.out | apply below_alloc | apply pw_below_drewN | apply below_drew1) | exact HB.out)))); (case aL => have := LMc24.out; omega); intro v246 w27 ho hb hg hat; rw [← Ny245.out] at ho; have n0_ := Aside0.mk (Kd.R_after (ok := (fun _ => True)) (by (with_reducible repeat (first | apply Kd.R_alloc | apply Kd.R_drewN | apply Kd.R_drew)); exact HO244.out) hg hat); have n1_ := Aside0.mk (hb); have n2_ := Aside0.mk (ho); clear HO244; clear HB; clear HO_7; have HO244 := n0_; have HB := n1_; have HO247 := n2_; clear n0_ n1_ n2_; clear ho hb hg hat))
                  repeat (go_quiet (first | ((with_reducible refine gate_dst (N := 67) rfl ?_); refine Kd.R_lit (Kd.int .u8) _ 5 ?hg (N := 67) ?hd (xs := ([(48 + ((bt a0 x31_2) / 16)) % 256, (48 + (Go.bits .and .u8 (bt a0 x31_2) 15)) % 256] : List Int)) (inner := [.int .u8 ((48 + ((bt a0 x31_2) / 16)) % 256), .int .u8 ((48 + (Go.bits .and .u8 (bt a0 x31_2) 15)) % 256)]) (ok := fun _ => True) (okp := fun _ => True) ?hr ?hp (fun _ hk => hk) trivial (Below.refl _ _) (Nat.le_refl _) (by simp) ?_; (case hd => rfl); (case hg => rfl); (case hr => first | (go_simp; done) | (go_simp; rfl) | (have hu8_ := IntKind.wrap_u8; go_simp; done) | (have hu8_ := IntKind.wrap_u8; go_simp; rfl) | (go_simp; simp [IntKind.wrap_u8]; done)); (case hp => exact (Reps.one (show Kd.M (Kd.int .u8) _ _ _ ((48 + ((bt a0 x31_2) / 16)) % 256) [.int .u8 ((48 + ((bt a0 x31_2) / 16)) % 256)] from rfl) (Reps.one (show Kd.M (Kd.int .u8) _ _ _ ((48 + (Go.bits .and .u8 (bt a0 x31_2) 15)) % 256) [.int .u8 ((48 + (Go.bits .and .u8 (bt a0 x31_2) 15)) % 256)] from rfl) (Reps.none _ _)))); intro v243 w25 ho26 hb hg_ hnew_; clear hg_ hnew_; (first | rw [← Ny242.out] at ho26 | (simp only [Int.reduceToNat] at ho26; rw [← Ny242.out] at ho26)); have n0_ := Aside0.mk (Kd.R_elder' (by (with_reducible repeat (first | apply Kd.R_alloc | apply Kd.R_drewN | apply Kd.R_drew)); exact HO_7.out) (Kd.R_base ho26) hb); have n1_ := Aside0.mk (Kd.R_lower (Kd.R_new' ho26 (Kd.R_lt (by (with_reducible repeat (first | apply Kd.R_alloc | apply Kd.R_drewN | apply Kd.R_drew)); exact HO_7.out))) (below_size (by repeat (first | (with_reducible first | exact HB.out | apply below_alloc | apply pw_below_drewN | apply below_drew1) | exact HB.out)))); have n2_ := Aside0.mk (below_step (by repeat (first | (with_reducible first | exact HB.out | apply below_alloc | apply pw_below_drewN | apply below_drew1) | exact HB.out)) hb); clear HO_7; clear HB; have HO_7 := n0_; have HO244 := n1_; have HB := n2_; clear n0_ n1_ n2_; clear hb ho26; obtain ⟨Ao28, co28, eo28⟩ := Kd.R_slice HO244.out; subst eo28) | ((with_reducible refine gate_builtin (b := .append) (xs := #[.tmp 62, .tmp 67]) rfl ?_); at_builtin; refine Kd.R_append_rows (Kd.int .u8) (w0 := w) w.heap.size rfl (.tmp 62) (.tmp 67) 80 5 (.int .u8 0) 1 rfl Try.underlying80 info5 rfl (by decide) (by omega) u7 x7_2 y242 _ _ _ (fun k_ => some k_ ≠ (.slice Ao28 y242.length co28 : Value).ownBlock) (fun _ => False) rfl rfl ?aO ?aR (fun _ _ h => h) (fun _ h => h.elim) ?aF ?aB ?aS ?aL ?_; (case aR => repeat (first | exact (Kd.R_reads' HO244.out).2.2 | (with_reducible refine Kd.C_alloc ?_ _) | (with_reducible refine Kd.C_drewN ?_ _) | (with_reducible refine Kd.C_drew ?_))); (case aB => exact (by repeat (first | (with_reducible first | exact HB.out | apply below_alloc | apply pw_below_drewN | apply below_drew1) | exact HB.out))); (case aF => exact (fun k_ hk => Kd.fresh' (Kd.R_lt (by (with_reducible repeat (first | apply Kd.R_alloc | apply Kd.R_drewN | apply Kd.R_drew)); exact HO244.out)) k_ hk)); (case aO => exact (by (with_reducible repeat (first | apply Kd.R_alloc | apply Kd.R_drewN | apply Kd.R_drew)); exact Kd.R_mono HO_7.out (fun _ hk => hk.2))); (case aS => exact (below_size (by repeat (first | (with_reducible first | exact HB.out | apply below_alloc | apply pw_below_drewN | apply below_drew1) | exact HB.out)))); (case aL => have := LMc24.out; omega); intro v246 w27 ho hb hg hat; rw [← Ny245.out] at ho; have n0_ := Aside0.mk (Kd.R_after (ok := (fun _ => True)) (by (with_reducible repeat (first | apply Kd.R_alloc | apply Kd.R_drewN | apply Kd.R_drew)); exact HO244.out) hg hat); have n1_ := Aside0.mk (hb); have n2_ := Aside0.mk (ho); clear HO244; clear HB; clear HO_7; have HO244 := n0_; have HB := n1_; have HO247 := n2_; clear n0_ n1_ n2_; clear ho hb hg hat)); try go_wp2_with (first | ((with_reducible refine gate_dst (N := 67) rfl ?_); refine Kd.R_lit (Kd.int .u8) _ 5 ?hg (N := 67) ?hd (xs := ([(48 + ((bt a0 x31_2) / 16)) % 256, (48 + (Go.bits .and .u8 (bt a0 x31_2) 15)) % 256] : List Int)) (inner := [.int .u8 ((48 + ((bt a0 x31_2) / 16)) % 256), .int .u8 ((48 + (Go.bits .and .u8 (bt a0 x31_2) 15)) % 256)]) (ok := fun _ => True) (okp := fun _ => True) ?hr ?hp (fun _ hk => hk) trivial (Below.refl _ _) (Nat.le_refl _) (by simp) ?_; (case hd => rfl); (case hg => rfl); (case hr => first | (go_simp; done) | (go_simp; rfl) | (have hu8_ := IntKind.wrap_u8; go_simp; done) | (have hu8_ := IntKind.wrap_u8; go_simp; rfl) | (go_simp; simp [IntKind.wrap_u8]; done)); (case hp => exact (Reps.one (show Kd.M (Kd.int .u8) _ _ _ ((48 + ((bt a0 x31_2) / 16)) % 256) [.int .u8 ((48 + ((bt a0 x31_2) / 16)) % 256)] from rfl) (Reps.one (show Kd.M (Kd.int .u8) _ _ _ ((48 + (Go.bits .and .u8 (bt a0 x31_2) 15)) % 256) [.int .u8 ((48 + (Go.bits .and .u8 (bt a0 x31_2) 15)) % 256)] from rfl) (Reps.none _ _)))); intro v243 w25 ho26 hb hg_ hnew_; clear hg_ hnew_; (first | rw [← Ny242.out] at ho26 | (simp only [Int.reduceToNat] at ho26; rw [← Ny242.out] at ho26)); have n0_ := Aside0.mk (Kd.R_elder' (by (with_reducible repeat (first | apply Kd.R_alloc | apply Kd.R_drewN | apply Kd.R_drew)); exact HO_7.out) (Kd.R_base ho26) hb); have n1_ := Aside0.mk (Kd.R_lower (Kd.R_new' ho26 (Kd.R_lt (by (with_reducible repeat (first | apply Kd.R_alloc | apply Kd.R_drewN | apply Kd.R_drew)); exact HO_7.out))) (below_size (by repeat (first | (with_reducible first | exact HB.out | apply below_alloc | apply pw_below_drewN | apply below_drew1) | exact HB.out)))); have n2_ := Aside0.mk (below_step (by repeat (first | (with_reducible first | exact HB.out | apply below_alloc | apply pw_below_drewN | apply below_drew1) | exact HB.out)) hb); clear HO_7; clear HB; have HO_7 := n0_; have HO244 := n1_; have HB := n2_; clear n0_ n1_ n2_; clear hb ho26; obtain ⟨Ao28, co28, eo28⟩ := Kd.R_slice HO244.out; subst eo28) | ((with_reducible refine gate_builtin (b := .append) (xs := #[.tmp 62, .tmp 67]) rfl ?_); at_builtin; refine Kd.R_append_rows (Kd.int .u8) (w0 := w) w.heap.size rfl (.tmp 62) (.tmp 67) 80 5 (.int .u8 0) 1 rfl Try.underlying80 info5 rfl (by decide) (by omega) u7 x7_2 y242 _ _ _ (fun k_ => some k_ ≠ (.slice Ao28 y242.length co28 : Value).ownBlock) (fun _ => False) rfl rfl ?aO ?aR (fun _ _ h => h) (fun _ h => h.elim) ?aF ?aB ?aS ?aL ?_; (case aR => repeat (first | exact (Kd.R_reads' HO244.out).2.2 | (with_reducible refine Kd.C_alloc ?_ _) | (with_reducible refine Kd.C_drewN ?_ _) | (with_reducible refine Kd.C_drew ?_))); (case aB => exact (by repeat (first | (with_reducible first | exact HB.out | apply below_alloc | apply pw_below_drewN | apply below_drew1) | exact HB.out))); (case aF => exact (fun k_ hk => Kd.fresh' (Kd.R_lt (by (with_reducible repeat (first | apply Kd.R_alloc | apply Kd.R_drewN | apply Kd.R_drew)); exact HO244.out)) k_ hk)); (case aO => exact (by (with_reducible repeat (first | apply Kd.R_alloc | apply Kd.R_drewN | apply Kd.R_drew)); exact Kd.R_mono HO_7.out (fun _ hk => hk.2))); (case aS => exact (below_size (by repeat (first | (with_reducible first | exact HB.out | apply below_alloc | apply pw_below_drewN | apply below_drew1) | exact HB.out)))); (case aL => have := LMc24.out; omega); intro v246 w27 ho hb hg hat; rw [← Ny245.out] at ho; have n0_ := Aside0.mk (Kd.R_after (ok := (fun _ => True)) (by (with_reducible repeat (first | apply Kd.R_alloc | apply Kd.R_drewN | apply Kd.R_drew)); exact HO244.out) hg hat); have n1_ := Aside0.mk (hb); have n2_ := Aside0.mk (ho); clear HO244; clear HB; clear HO_7; have HO244 := n0_; have HB := n1_; have HO247 := n2_; clear n0_ n1_ n2_; clear ho hb hg hat)))
                  go_roundg kj17
                  case measure => have := HJ2.out; have := HK2.out; have := HJ17.out; omega
                  case rel => exact ⟨(y245), (wrap64 (x31_2 + 1)), (by first | rfl | (simp; done) | (simp [*]; done) | (simp [wrap64]; done)), H', ⟨by have := HJ2.out; have := HK2.out; have := HJ17.out; omega⟩, ⟨by (with_reducible repeat (first | apply Kd.R_alloc | apply Kd.R_drewN | apply Kd.R_drew)); exact Kd.R_mono HO247.out (fun _ hk => trivial)⟩, ⟨by repeat (first | (with_reducible first | exact HB.out | apply below_alloc | apply pw_below_drewN | apply below_drew1) | exact HB.out)⟩⟩
                 ·rw [if_neg c24] at H
                  exact absurd H (by simp)
           ·rw [if_neg c15] at H
            exact absurd H (by simp)
          ·rw [if_neg c14] at H
           exact absurd H (by simp)
         ·rw [if_neg c13] at H
          have c13b0 : decide (x31_2 < t234) = false := decide_eq_false c13
          clear c13
          obtain ⟨ji29, hji29⟩ : ∃ j_ : Int, (Int.tmod a1 2) = j_ := ⟨_, rfl⟩
          replace H : (if 0 ≤ (ji29) then (if (ji29) ≤ (x7_2.length : Int) then (some (strOfNums (x7_2.drop ((ji29) : Int).toNat), 0, 0)) else (none)) else (none)) = some (r1, r2, r3) := by first | (rw [hji29] at H; exact H) | (simp only [hji29] at H ⊢; exact H)
          by_cases c30 : 0 ≤ (ji29)
          ·rw [if_pos c30] at H
           have c30b0 := eq_true c30
           have c30b1 : decide (0 ≤ (ji29)) = true := decide_eq_true c30
           clear c30
           by_cases c31 : (ji29) ≤ (x7_2.length : Int)
           ·rw [if_pos c31] at H
            have c31b0 := eq_true c31
            have c31b1 : decide ((ji29) ≤ (x7_2.length : Int)) = true := decide_eq_true c31
            clear c31
            obtain ⟨y238, hy238⟩ : ∃ y_ : List Int, y_ = (x7_2.drop ((ji29) : Int).toNat) := ⟨_, rfl⟩
            replace H : (some (strOfNums y238, 0, 0)) = some (r1, r2, r3) := by first | (rw [hy238]; with_reducible exact H) | (have H2_ := (Option.bind_some _ _).symm.trans H; rw [hy238]; with_reducible exact H2_) | (have H2_ := (Option.bind_some _ _).symm.trans H; with_reducible exact H2_) | with_reducible exact H | (rw [hy238]; exact H) | exact H
            have Ny238 := Aside0.mk hy238
            clear hy238
            simp only [Option.some.injEq, Prod.mk.injEq] at H
            obtain ⟨rfl, rfl, rfl⟩ := H
            obtain ⟨Ao33, co33, eo33⟩ := Kd.R_slice HO_7.out
            subst eo33
            have q32 : ((ji29) : Int) ≤ ((x7_2.length : Int) : Int) := of_decide_eq_true (by first | (with_reducible assumption) | assumption)
            obtain ⟨i032, hi032, _, hsz32, _⟩ := info_parts info5
            have hroom32 : x7_2.length ≤ co33 := (Kd.R_reads' HO_7.out).2.1
            have hC32 : Kd.C (Kd.int .u8) _ Ao33 x7_2.length x7_2 := (Kd.R_reads' HO_7.out).2.2
            have q032 : (0 : Int) ≤ ((ji29) : Int) := of_decide_eq_true (by first | (with_reducible assumption) | assumption)
            have hcut32 := cut_from (P := Try.prog) 80 5 .i64 Try.underlying80 hi032 1 hsz32 Ao33 x7_2.length co33 (ji29) q032 q32
            have hr32 := Kd.C_drop (m := ((ji29) : Int).toNat) (c := co33) hC32 (by omega) hroom32
            obtain ⟨A32, hA32⟩ : ∃ A1, A1 = (if co33 = ((ji29) : Int).toNat then Ao33 else (Ao33 : Option Addr).map (·.add (((ji29) : Int).toNat * 1))) := ⟨_, rfl⟩
            obtain ⟨c32, hc32⟩ : ∃ c1, c1 = co33 - ((ji29) : Int).toNat := ⟨_, rfl⟩
            have hy32 : y238.length = x7_2.length - ((ji29) : Int).toNat := (by rw [Ny238.out, List.length_drop] <;> omega)
            rw [show (x7_2).drop ((ji29) : Int).toNat = y238 from Ny238.out.symm] at hr32
            replace hr32 : Kd.C (Kd.int .u8) _ A32 y238.length y238 := (by rw [hA32]; exact hr32)
            rw [← hy32, ← hA32, ← hc32] at hcut32
            have HR241 := Aside0.mk hr32
            have HC241 := Aside0.mk (show y238.length ≤ c32 from by rw [hy32, hc32]; exact Nat.sub_le_sub_right hroom32 _)
            clear hr32 hC32 hroom32 hi032 hsz32 hc32
            have KY32 := Aside0.mk hy32
            have KA32 := Aside0.mk hA32
            clear hy32 hA32
            have KL32 := Aside0.mk (show ((ji29) : Int).toNat ≤ x7_2.length from by omega)
            replace q32 := eq_true q32
            have hcv34 := Kd.C_string (P := Try.prog) (A := A32) (c := c32) Try.underlying80 Try.underlying5 Try.underlying9 (by repeat (first | (with_reducible exact HR241.out) | (with_reducible refine Kd.C_alloc ?_ _) | (with_reducible refine Kd.C_drewN ?_ _) | (with_reducible refine Kd.C_drew ?_) | exact HR241.out))
            go_wp2
            repeat (go_quiet (fail); try go_wp2)
            go_ret3
            exact ⟨by first | rfl | (simp [errW_none, errW_some] <;> rfl) | (simp only [← hji8, ← hji29]; first | rfl | (simp [errW_none, errW_some] <;> rfl)) | (simp [*, errW_none, errW_some] <;> rfl), by repeat (first | (with_reducible first | exact HB.out | apply below_alloc | apply pw_below_drewN | apply below_drew1) | exact HB.out)⟩
           ·rw [if_neg c31] at H
            exact absurd H (by simp)
          ·rw [if_neg c30] at H
           exact absurd H (by simp)
      ·rw [if_neg c10] at H
       exact absurd H (by simp)
     ·rw [if_neg c9] at H
      exact absurd H (by simp)
/-! ### digits_Get: function 64 (by hand) -/
/-- The number that digits are, if they are not too many: as the walk tells it. -/
def digits_Get.f (a0 : ByteArray) : Option (Int × Bool) := some (if (Sp.bl a0).length < 1 ∨ 18 < (Sp.bl a0).length ∨ (Sp.bl a0).all Sp.dig = false then (0, false) else ((Sp.num (Sp.bl a0) : Nat), true))
theorem digits_Get.num_take (s : ByteArray) (k : Nat) (hk : k < s.size) : Sp.num ((Sp.bl s).take (k + 1)) = 10 * Sp.num ((Sp.bl s).take k) + ((s[k]'hk).toNat - 48) := by
 have e : (Sp.bl s).take (k + 1) = (Sp.bl s).take k ++ [s[k]'hk] := by unfold Sp.bl; rw [List.take_succ_eq_append_getElem (by simpa using hk)]; rfl
 rw [e, Sp.num_snoc]
theorem digits_Get.num_bound (s : ByteArray) (k : Nat) (h18 : s.size ≤ 18) (hk : k < s.size) (hd : (Sp.bl s).all Sp.dig = true) : Sp.num ((Sp.bl s).take k) < 1000000000000000000 ∧ 10 * Sp.num ((Sp.bl s).take k) < 1000000000000000000 := by
 have h1 : ((Sp.bl s).take k).all Sp.dig = true := by
  rw [List.all_eq_true] at hd ⊢
  exact fun x hx => hd x (List.mem_of_mem_take hx)
 have h2 := Sp.num_lt _ h1
 have h3 : ((Sp.bl s).take k).length ≤ 17 := by have := List.length_take_le k (Sp.bl s); omega
 have h4 : 10 ^ ((Sp.bl s).take k).length ≤ 10 ^ 17 := Nat.pow_le_pow_right (by decide) h3
 constructor <;> omega
theorem digits_Get.num_end (s : ByteArray) (k : Nat) (hk : ¬ k < s.size) : Sp.num ((Sp.bl s).take k) = Sp.num (Sp.bl s) := by
 rw [List.take_of_length_le (by simp [Sp.bl]; omega)]
theorem digits_Get.byte_dig (s : ByteArray) (k : Nat) (hk : k < s.size) (hd : (Sp.bl s).all Sp.dig = true) : 48 ≤ (s[k]'hk).toNat ∧ (s[k]'hk).toNat ≤ 57 :=
 (Sp.dig_iff _).1 (List.all_eq_true.1 hd _ (by show s.data[k] ∈ s.data.toList; simp))
set_option maxHeartbeats 4000000 in
theorem digits_Get.calls (a0 : ByteArray) (r1 : Int) (r2 : Bool) (w : World) (h : digits_Get.f a0 = some (r1, r2)) :
  Calls Try.prog 64 #[.string a0] w fun e w' => e = .returned (.tuple #[.int .i64 r1, .bool r2]) ∧ Below w.heap.size w w' := by
 have hlen : (Sp.bl a0).length = a0.size := by simp [Sp.bl]
 have H0 := Aside0.mk (Option.some.inj h)
 clear h
 by_cases h0 : a0.size = 0
 ·have he : a0.toList.isEmpty = true := by rw [Sp.toList_bl, List.isEmpty_iff]; exact List.eq_nil_of_length_eq_zero (by omega)
  have hf := H0.out
  rw [if_pos (.inl (by omega))] at hf
  simp only [Prod.mk.injEq] at hf
  obtain ⟨rfl, rfl⟩ := hf
  clear hlen
  clear h0
  go_enter Try.func64, Try.ntmps64
  go_wp2
  go_ret2
  exact ⟨rfl, Below.refl _ _⟩
 ·have he : a0.toList.isEmpty = false := by
   rw [Sp.toList_bl]; cases h : (Sp.bl a0) with
   | nil => rw [h] at hlen; simp at hlen; omega
   | cons => rfl
  by_cases h1 : 18 < a0.size
  ·have hf := H0.out
   rw [if_pos (.inr (.inl (by omega)))] at hf
   simp only [Prod.mk.injEq] at hf
   obtain ⟨rfl, rfl⟩ := hf
   have c1 : decide (18 < a0.size) = true := decide_eq_true h1
   have c2 : decide ((18 : Int) < (a0.size : Int)) = true := decide_eq_true (by omega)
   clear hlen h0 h1
   go_enter Try.func64, Try.ntmps64
   go_wp2
   go_ret2
   exact ⟨rfl, Below.refl _ _⟩
  ·have c1 : decide (18 < a0.size) = false := decide_eq_false h1
   have c2 : decide ((18 : Int) < (a0.size : Int)) = false := decide_eq_false (by omega)
   cases hd : (Sp.bl a0).all Sp.dig with
   | false =>
    have hf := H0.out
    rw [if_pos (.inr (.inr hd))] at hf
    simp only [Prod.mk.injEq] at hf
    obtain ⟨rfl, rfl⟩ := hf
    have HA : Aside0 (digits_All.f a0 = some false) := ⟨by unfold digits_All.f allDig; rw [hd]⟩
    clear hlen h0 h1 hd
    go_enter Try.func64, Try.ntmps64
    go_wp2_with (go_at_call 59; (with_reducible refine (digits_All.calls a0 false _ HA.out).mono ?_); rintro e w' ⟨rfl, hb⟩)
    go_ret2
    exact ⟨rfl, hb⟩
   | true =>
    have hf := H0.out
    rw [if_neg (by intro h; rcases h with h | h | h; omega; omega; (rw [hd] at h; cases h))] at hf
    simp only [Prod.mk.injEq] at hf
    obtain ⟨rfl, rfl⟩ := hf
    have HA : Aside0 (digits_All.f a0 = some true) := ⟨by unfold digits_All.f allDig; rw [hd]⟩
    have HD := Aside0.mk hd
    have HL := Aside0.mk h1
    clear hlen h0 h1 hd H0
    go_enter Try.func64, Try.ntmps64
    go_wp2_with (go_at_call 59; (with_reducible refine (digits_All.calls a0 true _ HA.out).mono ?_); rintro e w1 ⟨rfl, hb⟩)
    go_loopw [4] (fun v wr => ∃ pos : Nat, wr = w1.iter a0 pos ∧ v = .int .i64 (Sp.num ((Sp.bl a0).take pos) : Nat)) (fun _ wr => a0.size - wr.iterPos w1.heap.size)
    case atStart => exact ⟨0, rfl, rfl⟩
    case round =>
     obtain ⟨pos, rfl, rfl⟩ := hrel
     have hb2 : Below w.heap.size w (w1.iter a0 pos) := hb.trans ((Below.refl _ w1).alloc hb.size _)
     by_cases hp : pos < a0.size
     ·have hbd := digits_Get.byte_dig a0 pos hp HD.out
      obtain ⟨h48, h57⟩ := hbd
      have hnb := digits_Get.num_bound a0 pos (by have := HL.out; omega) hp HD.out
      have HN := Aside0.mk (digits_Get.num_take a0 pos hp)
      have hnx := fun ty => run_next_ascii (P := Try.prog) w1 a0 pos ty hp (by omega)
      obtain ⟨q, hq⟩ : ∃ q : Nat, q = Sp.num ((Sp.bl a0).take pos) := ⟨_, rfl⟩
      rw [← hq] at hnb HN ⊢
      clear hq
      obtain ⟨hn1, hn2⟩ := hnb
      go_wp2
      go_roundw
      case rel => exact ⟨pos + 1, rfl, by rw [HN.out]; congr 1; omega⟩
      case measure => simp only [World.iterPos_iter]; omega
     ·have hnx := fun ty => run_next_end (P := Try.prog) w1 a0 pos ty hp
      have HE := Aside0.mk (digits_Get.num_end a0 pos hp)
      go_wp2
      go_ret2
      exact ⟨by rw [← HE.out]; rfl, hb2⟩

end Go.Proofs.Ytfaeodcapagjbaa.P
