-- written for this claim by wip/pp.py
import Derived.Test.YtfaeodcapagjbaaPx0
namespace Go.Proofs.Ytfaeodcapagjbaa.P
open Go.RowKit Go.Proofs.YtfaeodcapagjbaaW.PrintWords Go.Proofs.YtfaeodcapagjbaaW.PrintLast Go.Proofs.YtfaeodcapagjbaaW.PrintMore
attribute [local go_sem] max2_int min2_int max_two min_two max_three min_three max_four min_four   -- for this text's walks alone
set_option linter.unusedVariables false
set_option linter.unusedSimpArgs false

/-! ### groatref11_Check: function 15 -/
mutual
def groatref11_Check.j0 : Nat → Bool → Int → Int → Int → Int → Int → Option (Int)
 | 0, _, _, _, _, _, _ => none
 | k + 1, x11, x139000, x139001, x139002, x139003, x139004 => if x11 = true then (some 1) else (if x139001 < 1 then (groatref11_Check.j1 k true x139000 x139001 x139002 x139003 x139004) else (groatref11_Check.j1 k (decide (x139001 > 6)) x139000 x139001 x139002 x139003 x139004))
def groatref11_Check.j1 : Nat → Bool → Int → Int → Int → Int → Int → Option (Int)
 | 0, _, _, _, _, _, _ => none
 | k + 1, x19, x139000, x139001, x139002, x139003, x139004 => if x19 = true then (some 6) else (if x139002 < 1 then (groatref11_Check.j2 k true x139000 x139001 x139002 x139003 x139004) else (groatref11_Check.j2 k (decide (x139002 > 3)) x139000 x139001 x139002 x139003 x139004))
def groatref11_Check.j2 : Nat → Bool → Int → Int → Int → Int → Int → Option (Int)
 | 0, _, _, _, _, _, _ => none
 | k + 1, x27, x139000, x139001, x139002, x139003, x139004 => if x27 = true then (some 3) else (if x139002 = 2 then (groatref11_Check.j3 k 99 x139000 x139001 x139002 x139003 x139004) else (groatref11_Check.j3 k 999 x139000 x139001 x139002 x139003 x139004))
def groatref11_Check.j3 : Nat → Int → Int → Int → Int → Int → Int → Option (Int)
 | 0, _, _, _, _, _, _ => none
 | k + 1, x3, x139000, x139001, x139002, x139003, x139004 => if x139003 < 1 then (groatref11_Check.j4 k true x139000 x139001 x139002 x139003 x139004) else (if x139004 < x139003 then (groatref11_Check.j4 k true x139000 x139001 x139002 x139003 x139004) else (if x139004 > x3 then (groatref11_Check.j4 k true x139000 x139001 x139002 x139003 x139004) else (if x139002 = 1 then (groatref11_Check.j4 k (x139003 != x139004) x139000 x139001 x139002 x139003 x139004) else (groatref11_Check.j4 k false x139000 x139001 x139002 x139003 x139004))))
def groatref11_Check.j4 : Nat → Bool → Int → Int → Int → Int → Int → Option (Int)
 | 0, _, _, _, _, _, _ => none
 | k + 1, x58, x139000, x139001, x139002, x139003, x139004 => if x58 = true then (some 5) else (if x139002 = 1 then (if x139001 = 6 then (some 13) else (some 0)) else (some 0))
end
def groatref11_Check.f (k : Nat) (a0_0 : Int) (a0_1 : Int) (a0_2 : Int) (a0_3 : Int) (a0_4 : Int) : Option (Int) := if a0_0 < 2 then (groatref11_Check.j0 k true a0_0 a0_1 a0_2 a0_3 a0_4) else (groatref11_Check.j0 k (decide (a0_0 > 128)) a0_0 a0_1 a0_2 a0_3 a0_4)
theorem groatref11_Check.mono_l : ∀ k, (∀ y0 y1 y2 y3 y4 y5, LeO (groatref11_Check.j0 k y0 y1 y2 y3 y4 y5) (groatref11_Check.j0 (k + 1) y0 y1 y2 y3 y4 y5)) ∧ (∀ y0 y1 y2 y3 y4 y5, LeO (groatref11_Check.j1 k y0 y1 y2 y3 y4 y5) (groatref11_Check.j1 (k + 1) y0 y1 y2 y3 y4 y5)) ∧ (∀ y0 y1 y2 y3 y4 y5, LeO (groatref11_Check.j2 k y0 y1 y2 y3 y4 y5) (groatref11_Check.j2 (k + 1) y0 y1 y2 y3 y4 y5)) ∧ (∀ y0 y1 y2 y3 y4 y5, LeO (groatref11_Check.j3 k y0 y1 y2 y3 y4 y5) (groatref11_Check.j3 (k + 1) y0 y1 y2 y3 y4 y5)) ∧ (∀ y0 y1 y2 y3 y4 y5, LeO (groatref11_Check.j4 k y0 y1 y2 y3 y4 y5) (groatref11_Check.j4 (k + 1) y0 y1 y2 y3 y4 y5))
 | 0 => ⟨fun _ _ _ _ _ _ r h => by simp [groatref11_Check.j0] at h, fun _ _ _ _ _ _ r h => by simp [groatref11_Check.j1] at h, fun _ _ _ _ _ _ r h => by simp [groatref11_Check.j2] at h, fun _ _ _ _ _ _ r h => by simp [groatref11_Check.j3] at h, fun _ _ _ _ _ _ r h => by simp [groatref11_Check.j4] at h⟩
 | k + 1 => by
  obtain ⟨ih0, ih1, ih2, ih3, ih4⟩ := groatref11_Check.mono_l k
  refine ⟨?_, ?_, ?_, ?_, ?_⟩
  ·intro y0 y1 y2 y3 y4 y5
   unfold groatref11_Check.j0
   repeat' first
   | (with_reducible exact ih0 _ _ _ _ _ _)
   | (with_reducible exact ih1 _ _ _ _ _ _)
   | (with_reducible exact ih2 _ _ _ _ _ _)
   | (with_reducible exact ih3 _ _ _ _ _ _)
   | (with_reducible exact ih4 _ _ _ _ _ _)
   | (with_reducible exact LeO.refl _)
   | (with_reducible exact LeO.none _)
   | (with_reducible refine LeO.ite ?_ ?_)
   | (with_reducible refine LeO.bind ?_ (fun _ => ?_))
   | exact ih0 _ _ _ _ _ _
   | exact ih1 _ _ _ _ _ _
   | exact ih2 _ _ _ _ _ _
   | exact ih3 _ _ _ _ _ _
   | exact ih4 _ _ _ _ _ _
   | exact LeO.none _
   | refine LeO.ite ?_ ?_
   | refine LeO.bind ?_ (fun _ => ?_)
  ·intro y0 y1 y2 y3 y4 y5
   unfold groatref11_Check.j1
   repeat' first
   | (with_reducible exact ih0 _ _ _ _ _ _)
   | (with_reducible exact ih1 _ _ _ _ _ _)
   | (with_reducible exact ih2 _ _ _ _ _ _)
   | (with_reducible exact ih3 _ _ _ _ _ _)
   | (with_reducible exact ih4 _ _ _ _ _ _)
   | (with_reducible exact LeO.refl _)
   | (with_reducible exact LeO.none _)
   | (with_reducible refine LeO.ite ?_ ?_)
   | (with_reducible refine LeO.bind ?_ (fun _ => ?_))
   | exact ih0 _ _ _ _ _ _
   | exact ih1 _ _ _ _ _ _
   | exact ih2 _ _ _ _ _ _
   | exact ih3 _ _ _ _ _ _
   | exact ih4 _ _ _ _ _ _
   | exact LeO.none _
   | refine LeO.ite ?_ ?_
   | refine LeO.bind ?_ (fun _ => ?_)
  ·intro y0 y1 y2 y3 y4 y5
   unfold groatref11_Check.j2
   repeat' first
   | (with_reducible exact ih0 _ _ _ _ _ _)
   | (with_reducible exact ih1 _ _ _ _ _ _)
   | (with_reducible exact ih2 _ _ _ _ _ _)
   | (with_reducible exact ih3 _ _ _ _ _ _)
   | (with_reducible exact ih4 _ _ _ _ _ _)
   | (with_reducible exact LeO.refl _)
   | (with_reducible exact LeO.none _)
   | (with_reducible refine LeO.ite ?_ ?_)
   | (with_reducible refine LeO.bind ?_ (fun _ => ?_))
   | exact ih0 _ _ _ _ _ _
   | exact ih1 _ _ _ _ _ _
   | exact ih2 _ _ _ _ _ _
   | exact ih3 _ _ _ _ _ _
   | exact ih4 _ _ _ _ _ _
   | exact LeO.none _
   | refine LeO.ite ?_ ?_
   | refine LeO.bind ?_ (fun _ => ?_)
  ·intro y0 y1 y2 y3 y4 y5
   unfold groatref11_Check.j3
   repeat' first
   | (with_reducible exact ih0 _ _ _ _ _ _)
   | (with_reducible exact ih1 _ _ _ _ _ _)
   | (with_reducible exact ih2 _ _ _ _ _ _)
   | (with_reducible exact ih3 _ _ _ _ _ _)
   | (with_reducible exact ih4 _ _ _ _ _ _)
   | (with_reducible exact LeO.refl _)
   | (with_reducible exact LeO.none _)
   | (with_reducible refine LeO.ite ?_ ?_)
   | (with_reducible refine LeO.bind ?_ (fun _ => ?_))
   | exact ih0 _ _ _ _ _ _
   | exact ih1 _ _ _ _ _ _
   | exact ih2 _ _ _ _ _ _
   | exact ih3 _ _ _ _ _ _
   | exact ih4 _ _ _ _ _ _
   | exact LeO.none _
   | refine LeO.ite ?_ ?_
   | refine LeO.bind ?_ (fun _ => ?_)
  ·intro y0 y1 y2 y3 y4 y5
   unfold groatref11_Check.j4
   repeat' first
   | (with_reducible exact ih0 _ _ _ _ _ _)
   | (with_reducible exact ih1 _ _ _ _ _ _)
   | (with_reducible exact ih2 _ _ _ _ _ _)
   | (with_reducible exact ih3 _ _ _ _ _ _)
   | (with_reducible exact ih4 _ _ _ _ _ _)
   | (with_reducible exact LeO.refl _)
   | (with_reducible exact LeO.none _)
   | (with_reducible refine LeO.ite ?_ ?_)
   | (with_reducible refine LeO.bind ?_ (fun _ => ?_))
   | exact ih0 _ _ _ _ _ _
   | exact ih1 _ _ _ _ _ _
   | exact ih2 _ _ _ _ _ _
   | exact ih3 _ _ _ _ _ _
   | exact ih4 _ _ _ _ _ _
   | exact LeO.none _
   | refine LeO.ite ?_ ?_
   | refine LeO.bind ?_ (fun _ => ?_)
theorem groatref11_Check.mono : ∀ a0 a1 a2 a3 a4 k, LeO (groatref11_Check.f k a0 a1 a2 a3 a4) (groatref11_Check.f (k + 1) a0 a1 a2 a3 a4) := by
 intro a0 a1 a2 a3 a4 k
 obtain ⟨ih0, ih1, ih2, ih3, ih4⟩ := groatref11_Check.mono_l k
 unfold groatref11_Check.f
 repeat' first
   | (with_reducible exact ih0 _ _ _ _ _ _)
   | (with_reducible exact ih1 _ _ _ _ _ _)
   | (with_reducible exact ih2 _ _ _ _ _ _)
   | (with_reducible exact ih3 _ _ _ _ _ _)
   | (with_reducible exact ih4 _ _ _ _ _ _)
   | (with_reducible exact LeO.refl _)
   | (with_reducible exact LeO.none _)
   | (with_reducible refine LeO.ite ?_ ?_)
   | (with_reducible refine LeO.bind ?_ (fun _ => ?_))
   | exact ih0 _ _ _ _ _ _
   | exact ih1 _ _ _ _ _ _
   | exact ih2 _ _ _ _ _ _
   | exact ih3 _ _ _ _ _ _
   | exact ih4 _ _ _ _ _ _
   | exact LeO.none _
   | refine LeO.ite ?_ ?_
   | refine LeO.bind ?_ (fun _ => ?_)
set_option maxHeartbeats 8000000 in
set_option maxRecDepth 100000 in
theorem groatref11_Check.calls (k : Nat) (a0_0 : Int) (a0_1 : Int) (a0_2 : Int) (a0_3 : Int) (a0_4 : Int) (r : Int) (w : World) (h : groatref11_Check.f k a0_0 a0_1 a0_2 a0_3 a0_4 = some r) :
  Calls Try.prog 15 #[.agg #[.int .i64 a0_0, .int .i64 a0_1, .int .i64 a0_2, .int .i64 a0_3, .int .i64 a0_4]] w fun e w' => e = .returned (.int .i64 r) ∧ Below w.heap.size w w' := by
 have hu23 := Try.underlying23
 have HB := Aside0.mk (Below.refl w.heap.size w)
 have H : (if a0_0 < 2 then (groatref11_Check.j0 k true a0_0 a0_1 a0_2 a0_3 a0_4) else (groatref11_Check.j0 k (decide (a0_0 > 128)) a0_0 a0_1 a0_2 a0_3 a0_4)) = some r := h
 clear h
 have HC2 := Aside0.mk H
 clear H
 go_enter Try.func15, Try.ntmps15
 go_upto_region 1 with (first | ((with_reducible refine gate_dst (N := 1) rfl ?_); refine box_event ?hg (N := 1) ?hd (cs := #[.int .i64 a0_0, .int .i64 a0_1, .int .i64 a0_2, .int .i64 a0_3, .int .i64 a0_4]) (t := 23) ?hr ?_; (case hd => rfl); (case hg => rfl); (case hr => first | (go_simp; done) | (go_simp; rfl) | (have hu8_ := IntKind.wrap_u8; go_simp; done) | (have hu8_ := IntKind.wrap_u8; go_simp; rfl) | (go_simp; simp [IntKind.wrap_u8]; done)); intro gb138 hg w3 hbox hb; have n0_ := Aside0.mk (below_step (by repeat (first | (with_reducible first | exact HB.out | apply below_alloc | apply pw_below_drewN | apply below_drew1) | exact HB.out)) hb); have n1_ := Aside0.mk (hbox); have n2_ := Aside0.mk ((by rw [hg]; exact (below_size (by repeat (first | (with_reducible first | exact HB.out | apply below_alloc | apply pw_below_drewN | apply below_drew1) | exact HB.out))) : w.heap.size ≤ gb138)); have n3_ := Aside0.mk ((by rw [hg]; exact (below_size (by repeat (first | (with_reducible first | exact HB.out | apply below_alloc | apply pw_below_drewN | apply below_drew1) | exact HB.out))) : w.heap.size ≤ gb138)); clear HB; have HB := n0_; have BK138 := n1_; have GW138 := n2_; have GE138 := n3_; clear n0_ n1_ n2_ n3_; clear hb hbox hg))
 (try simp only [Act.put, List.setIfInBounds_toArray, List.set_cons_zero, List.set_cons_succ])
 go_cut [11] (fun v11 wc => ∃ (kq : Nat) (x11_1 : Bool), v11 = .bool x11_1 ∧ Aside0 (groatref11_Check.j0 kq x11_1 a0_0 a0_1 a0_2 a0_3 a0_4 = some r) ∧ Aside0 (kq ≤ k) ∧ Aside0 (wc.heap[gb138]? = some (.cells #[.int .i64 a0_0, .int .i64 a0_1, .int .i64 a0_2, .int .i64 a0_3, .int .i64 a0_4] 23 (0, 0))) ∧ Aside0 (Below w.heap.size w wc))
 case first =>
  have H := HC2.out
  clear HC2
  by_cases c4 : a0_0 < 2
  ·rw [if_pos c4] at H
   have c4b0 : decide (a0_0 < 2) = true := decide_eq_true c4
   clear c4
   (first | rw [c4b0] | (simp only [i64_w, i32_w]; rw [c4b0]) | skip)
   have H' := Aside0.mk H
   clear H
   have hcz5_0 : w3.cell? ⟨gb138, 0, none⟩ = some (.int .i64 a0_0) := (blk_cell BK138.out 0).trans rfl
   have hcz5_1 : w3.cell? ⟨gb138, 1, none⟩ = some (.int .i64 a0_1) := (blk_cell BK138.out 1).trans rfl
   have hcz5_2 : w3.cell? ⟨gb138, 2, none⟩ = some (.int .i64 a0_2) := (blk_cell BK138.out 2).trans rfl
   have hcz5_3 : w3.cell? ⟨gb138, 3, none⟩ = some (.int .i64 a0_3) := (blk_cell BK138.out 3).trans rfl
   have hcz5_4 : w3.cell? ⟨gb138, 4, none⟩ = some (.int .i64 a0_4) := (blk_cell BK138.out 4).trans rfl
   have hfz5_0 := blk_frozen BK138.out 0
   have hfz5_1 := blk_frozen BK138.out 1
   have hfz5_2 := blk_frozen BK138.out 2
   have hfz5_3 := blk_frozen BK138.out 3
   have hfz5_4 := blk_frozen BK138.out 4
   go_wp2
   go_meet
   case rel => exact ⟨_, (true), (by first | rfl | (simp; done) | (simp [*]; done) | (simp [wrap64]; done)), H', ⟨by first | omega | exact Nat.le_refl _⟩, ⟨by (with_reducible repeat (first | refine blk_drewN ?_ _ | refine blk_drew ?_ | refine blk_alloc ?_ _)); exact BK138.out⟩, ⟨by repeat (first | (with_reducible first | exact HB.out | apply below_alloc | apply pw_below_drewN | apply below_drew1 | refine below_set ?_ GE138.out) | exact HB.out)⟩⟩
  ·rw [if_neg c4] at H
   have c4b0 : decide (a0_0 < 2) = false := decide_eq_false c4
   clear c4
   (first | rw [c4b0] | (simp only [i64_w, i32_w]; rw [c4b0]) | skip)
   have H' := Aside0.mk H
   clear H
   have hcz6_0 : w3.cell? ⟨gb138, 0, none⟩ = some (.int .i64 a0_0) := (blk_cell BK138.out 0).trans rfl
   have hcz6_1 : w3.cell? ⟨gb138, 1, none⟩ = some (.int .i64 a0_1) := (blk_cell BK138.out 1).trans rfl
   have hcz6_2 : w3.cell? ⟨gb138, 2, none⟩ = some (.int .i64 a0_2) := (blk_cell BK138.out 2).trans rfl
   have hcz6_3 : w3.cell? ⟨gb138, 3, none⟩ = some (.int .i64 a0_3) := (blk_cell BK138.out 3).trans rfl
   have hcz6_4 : w3.cell? ⟨gb138, 4, none⟩ = some (.int .i64 a0_4) := (blk_cell BK138.out 4).trans rfl
   have hfz6_0 := blk_frozen BK138.out 0
   have hfz6_1 := blk_frozen BK138.out 1
   have hfz6_2 := blk_frozen BK138.out 2
   have hfz6_3 := blk_frozen BK138.out 3
   have hfz6_4 := blk_frozen BK138.out 4
   go_wp2
   go_meet
   case rel => exact ⟨_, (decide (a0_0 > 128)), (by first | rfl | (simp; done) | (simp [*]; done) | (simp [wrap64]; done)), H', ⟨by first | omega | exact Nat.le_refl _⟩, ⟨by (with_reducible repeat (first | refine blk_drewN ?_ _ | refine blk_drew ?_ | refine blk_alloc ?_ _)); exact BK138.out⟩, ⟨by repeat (first | (with_reducible first | exact HB.out | apply below_alloc | apply pw_below_drewN | apply below_drew1 | refine below_set ?_ GE138.out) | exact HB.out)⟩⟩
 case rest =>
  clear HC2
  try clear c1
  try clear p2
  try clear c4
  try clear c4b0
  try clear p6
  try clear hcz5_0
  try clear hcz5_1
  try clear hcz5_2
  try clear hcz5_3
  try clear hcz5_4
  try clear hcz6_0
  try clear hcz6_1
  try clear hcz6_2
  try clear hcz6_3
  try clear hcz6_4
  try clear hfz5_0
  try clear hfz5_1
  try clear hfz5_2
  try clear hfz5_3
  try clear hfz5_4
  try clear hfz6_0
  try clear hfz6_1
  try clear hfz6_2
  try clear hfz6_3
  try clear hfz6_4
  obtain ⟨kq, x11_1, rfl, HA, HJ1, BK138, HB⟩ := hcut
  cases kq with
  | zero => exact absurd HA.out (by simp [groatref11_Check.j0])
  | succ kj1 =>
   have H := HA.out
   clear HA
   simp only [groatref11_Check.j0] at H
   by_cases c7 : x11_1 = true
   ·subst c7
    have H1 : (some 1) = some r := by rw [if_pos rfl] at H; exact H
    clear H
    have H := H1
    clear H1
    obtain rfl := Option.some.inj H
    go_wp2
    go_ret
    exact ⟨by first | rfl | (simp [errW_none, errW_some] <;> rfl) | (simp [*, errW_none, errW_some] <;> rfl), by repeat (first | (with_reducible first | exact HB.out | apply below_alloc | apply pw_below_drewN | apply below_drew1 | refine below_set ?_ GE138.out) | exact HB.out)⟩
   ·replace c7 := Bool.eq_false_iff.mpr c7
    subst c7
    have H1 : (if a0_1 < 1 then (groatref11_Check.j1 kj1 true a0_0 a0_1 a0_2 a0_3 a0_4) else (groatref11_Check.j1 kj1 (decide (a0_1 > 6)) a0_0 a0_1 a0_2 a0_3 a0_4)) = some r := by rw [if_neg (show ¬ (false = true) by decide)] at H; exact H
    clear H
    have H := H1
    clear H1
    have HC8 := Aside0.mk H
    clear H
    go_upto_region 3 with (fail)
    go_cut [19] (fun v19 wc => ∃ (kq : Nat) (x19_7 : Bool), v19 = .bool x19_7 ∧ Aside0 (groatref11_Check.j1 kq x19_7 a0_0 a0_1 a0_2 a0_3 a0_4 = some r) ∧ Aside0 (kq ≤ kj1) ∧ Aside0 (wc.heap[gb138]? = some (.cells #[.int .i64 a0_0, .int .i64 a0_1, .int .i64 a0_2, .int .i64 a0_3, .int .i64 a0_4] 23 (0, 0))) ∧ Aside0 (Below w.heap.size w wc))
    case first =>
     have H := HC8.out
     clear HC8
     by_cases c9 : a0_1 < 1
     ·rw [if_pos c9] at H
      have c9b0 : decide (a0_1 < 1) = true := decide_eq_true c9
      clear c9
      (first | rw [c9b0] | (simp only [i64_w, i32_w]; rw [c9b0]) | skip)
      have H' := Aside0.mk H
      clear H
      have hcz10_0 : wc.cell? ⟨gb138, 0, none⟩ = some (.int .i64 a0_0) := (blk_cell BK138.out 0).trans rfl
      have hcz10_1 : wc.cell? ⟨gb138, 1, none⟩ = some (.int .i64 a0_1) := (blk_cell BK138.out 1).trans rfl
      have hcz10_2 : wc.cell? ⟨gb138, 2, none⟩ = some (.int .i64 a0_2) := (blk_cell BK138.out 2).trans rfl
      have hcz10_3 : wc.cell? ⟨gb138, 3, none⟩ = some (.int .i64 a0_3) := (blk_cell BK138.out 3).trans rfl
      have hcz10_4 : wc.cell? ⟨gb138, 4, none⟩ = some (.int .i64 a0_4) := (blk_cell BK138.out 4).trans rfl
      have hfz10_0 := blk_frozen BK138.out 0
      have hfz10_1 := blk_frozen BK138.out 1
      have hfz10_2 := blk_frozen BK138.out 2
      have hfz10_3 := blk_frozen BK138.out 3
      have hfz10_4 := blk_frozen BK138.out 4
      go_wp2
      go_meet
      case rel => exact ⟨_, (true), (by first | rfl | (simp; done) | (simp [*]; done) | (simp [wrap64]; done)), H', ⟨by have := HJ1.out; first | omega | exact Nat.le_refl _⟩, ⟨by (with_reducible repeat (first | refine blk_drewN ?_ _ | refine blk_drew ?_ | refine blk_alloc ?_ _)); exact BK138.out⟩, ⟨by repeat (first | (with_reducible first | exact HB.out | apply below_alloc | apply pw_below_drewN | apply below_drew1 | refine below_set ?_ GE138.out) | exact HB.out)⟩⟩
     ·rw [if_neg c9] at H
      have c9b0 : decide (a0_1 < 1) = false := decide_eq_false c9
      clear c9
      (first | rw [c9b0] | (simp only [i64_w, i32_w]; rw [c9b0]) | skip)
      have H' := Aside0.mk H
      clear H
      have hcz11_0 : wc.cell? ⟨gb138, 0, none⟩ = some (.int .i64 a0_0) := (blk_cell BK138.out 0).trans rfl
      have hcz11_1 : wc.cell? ⟨gb138, 1, none⟩ = some (.int .i64 a0_1) := (blk_cell BK138.out 1).trans rfl
      have hcz11_2 : wc.cell? ⟨gb138, 2, none⟩ = some (.int .i64 a0_2) := (blk_cell BK138.out 2).trans rfl
      have hcz11_3 : wc.cell? ⟨gb138, 3, none⟩ = some (.int .i64 a0_3) := (blk_cell BK138.out 3).trans rfl
      have hcz11_4 : wc.cell? ⟨gb138, 4, none⟩ = some (.int .i64 a0_4) := (blk_cell BK138.out 4).trans rfl
      have hfz11_0 := blk_frozen BK138.out 0
      have hfz11_1 := blk_frozen BK138.out 1
      have hfz11_2 := blk_frozen BK138.out 2
      have hfz11_3 := blk_frozen BK138.out 3
      have hfz11_4 := blk_frozen BK138.out 4
      go_wp2
      go_meet
      case rel => exact ⟨_, (decide (a0_1 > 6)), (by first | rfl | (simp; done) | (simp [*]; done) | (simp [wrap64]; done)), H', ⟨by have := HJ1.out; first | omega | exact Nat.le_refl _⟩, ⟨by (with_reducible repeat (first | refine blk_drewN ?_ _ | refine blk_drew ?_ | refine blk_alloc ?_ _)); exact BK138.out⟩, ⟨by repeat (first | (with_reducible first | exact HB.out | apply below_alloc | apply pw_below_drewN | apply below_drew1 | refine below_set ?_ GE138.out) | exact HB.out)⟩⟩
    case rest =>
     clear HC8
     try clear c1
     try clear p2
     try clear c4
     try clear c4b0
     try clear p6
     try clear c7
     try clear c9
     try clear c9b0
     try clear hcz10_0
     try clear hcz10_1
     try clear hcz10_2
     try clear hcz10_3
     try clear hcz10_4
     try clear hcz11_0
     try clear hcz11_1
     try clear hcz11_2
     try clear hcz11_3
     try clear hcz11_4
     try clear hcz5_0
     try clear hcz5_1
     try clear hcz5_2
     try clear hcz5_3
     try clear hcz5_4
     try clear hcz6_0
     try clear hcz6_1
     try clear hcz6_2
     try clear hcz6_3
     try clear hcz6_4
     try clear hfz10_0
     try clear hfz10_1
     try clear hfz10_2
     try clear hfz10_3
     try clear hfz10_4
     try clear hfz11_0
     try clear hfz11_1
     try clear hfz11_2
     try clear hfz11_3
     try clear hfz11_4
     try clear hfz5_0
     try clear hfz5_1
     try clear hfz5_2
     try clear hfz5_3
     try clear hfz5_4
     try clear hfz6_0
     try clear hfz6_1
     try clear hfz6_2
     try clear hfz6_3
     try clear hfz6_4
     try clear p2
     try clear p6
     obtain ⟨kq, x19_7, rfl, HA, HJ7, BK138, HB⟩ := hcut
     cases kq with
     | zero => exact absurd HA.out (by simp [groatref11_Check.j1])
     | succ kj7 =>
      have H := HA.out
      clear HA
      simp only [groatref11_Check.j1] at H
      by_cases c12 : x19_7 = true
      ·subst c12
       have H1 : (some 6) = some r := by rw [if_pos rfl] at H; exact H
       clear H
       have H := H1
       clear H1
       obtain rfl := Option.some.inj H
       go_wp2
       go_ret
       exact ⟨by first | rfl | (simp [errW_none, errW_some] <;> rfl) | (simp [*, errW_none, errW_some] <;> rfl), by repeat (first | (with_reducible first | exact HB.out | apply below_alloc | apply pw_below_drewN | apply below_drew1 | refine below_set ?_ GE138.out) | exact HB.out)⟩
      ·replace c12 := Bool.eq_false_iff.mpr c12
       subst c12
       have H1 : (if a0_2 < 1 then (groatref11_Check.j2 kj7 true a0_0 a0_1 a0_2 a0_3 a0_4) else (groatref11_Check.j2 kj7 (decide (a0_2 > 3)) a0_0 a0_1 a0_2 a0_3 a0_4)) = some r := by rw [if_neg (show ¬ (false = true) by decide)] at H; exact H
       clear H
       have H := H1
       clear H1
       have HC13 := Aside0.mk H
       clear H
       go_upto_region 5 with (fail)
       go_cut [27] (fun v27 wc => ∃ (kq : Nat) (x27_12 : Bool), v27 = .bool x27_12 ∧ Aside0 (groatref11_Check.j2 kq x27_12 a0_0 a0_1 a0_2 a0_3 a0_4 = some r) ∧ Aside0 (kq ≤ kj7) ∧ Aside0 (wc.heap[gb138]? = some (.cells #[.int .i64 a0_0, .int .i64 a0_1, .int .i64 a0_2, .int .i64 a0_3, .int .i64 a0_4] 23 (0, 0))) ∧ Aside0 (Below w.heap.size w wc))
       case first =>
        have H := HC13.out
        clear HC13
        by_cases c14 : a0_2 < 1
        ·rw [if_pos c14] at H
         have c14b0 : decide (a0_2 < 1) = true := decide_eq_true c14
         clear c14
         (first | rw [c14b0] | (simp only [i64_w, i32_w]; rw [c14b0]) | skip)
         have H' := Aside0.mk H
         clear H
         have hcz15_0 : wc.cell? ⟨gb138, 0, none⟩ = some (.int .i64 a0_0) := (blk_cell BK138.out 0).trans rfl
         have hcz15_1 : wc.cell? ⟨gb138, 1, none⟩ = some (.int .i64 a0_1) := (blk_cell BK138.out 1).trans rfl
         have hcz15_2 : wc.cell? ⟨gb138, 2, none⟩ = some (.int .i64 a0_2) := (blk_cell BK138.out 2).trans rfl
         have hcz15_3 : wc.cell? ⟨gb138, 3, none⟩ = some (.int .i64 a0_3) := (blk_cell BK138.out 3).trans rfl
         have hcz15_4 : wc.cell? ⟨gb138, 4, none⟩ = some (.int .i64 a0_4) := (blk_cell BK138.out 4).trans rfl
         have hfz15_0 := blk_frozen BK138.out 0
         have hfz15_1 := blk_frozen BK138.out 1
         have hfz15_2 := blk_frozen BK138.out 2
         have hfz15_3 := blk_frozen BK138.out 3
         have hfz15_4 := blk_frozen BK138.out 4
         go_wp2
         go_meet
         case rel => exact ⟨_, (true), (by first | rfl | (simp; done) | (simp [*]; done) | (simp [wrap64]; done)), H', ⟨by have := HJ1.out; have := HJ7.out; first | omega | exact Nat.le_refl _⟩, ⟨by (with_reducible repeat (first | refine blk_drewN ?_ _ | refine blk_drew ?_ | refine blk_alloc ?_ _)); exact BK138.out⟩, ⟨by repeat (first | (with_reducible first | exact HB.out | apply below_alloc | apply pw_below_drewN | apply below_drew1 | refine below_set ?_ GE138.out) | exact HB.out)⟩⟩
        ·rw [if_neg c14] at H
         have c14b0 : decide (a0_2 < 1) = false := decide_eq_false c14
         clear c14
         (first | rw [c14b0] | (simp only [i64_w, i32_w]; rw [c14b0]) | skip)
         have H' := Aside0.mk H
         clear H
         have hcz16_0 : wc.cell? ⟨gb138, 0, none⟩ = some (.int .i64 a0_0) := (blk_cell BK138.out 0).trans rfl
         have hcz16_1 : wc.cell? ⟨gb138, 1, none⟩ = some (.int .i64 a0_1) := (blk_cell BK138.out 1).trans rfl
         have hcz16_2 : wc.cell? ⟨gb138, 2, none⟩ = some (.int .i64 a0_2) := (blk_cell BK138.out 2).trans rfl
         have hcz16_3 : wc.cell? ⟨gb138, 3, none⟩ = some (.int .i64 a0_3) := (blk_cell BK138.out 3).trans rfl
         have hcz16_4 : wc.cell? ⟨gb138, 4, none⟩ = some (.int .i64 a0_4) := (blk_cell BK138.out 4).trans rfl
         have hfz16_0 := blk_frozen BK138.out 0
         have hfz16_1 := blk_frozen BK138.out 1
         have hfz16_2 := blk_frozen BK138.out 2
         have hfz16_3 := blk_frozen BK138.out 3
         have hfz16_4 := blk_frozen BK138.out 4
         go_wp2
         go_meet
         case rel => exact ⟨_, (decide (a0_2 > 3)), (by first | rfl | (simp; done) | (simp [*]; done) | (simp [wrap64]; done)), H', ⟨by have := HJ1.out; have := HJ7.out; first | omega | exact Nat.le_refl _⟩, ⟨by (with_reducible repeat (first | refine blk_drewN ?_ _ | refine blk_drew ?_ | refine blk_alloc ?_ _)); exact BK138.out⟩, ⟨by repeat (first | (with_reducible first | exact HB.out | apply below_alloc | apply pw_below_drewN | apply below_drew1 | refine below_set ?_ GE138.out) | exact HB.out)⟩⟩
       case rest =>
        clear HC13
        try clear c1
        try clear p2
        try clear c4
        try clear c4b0
        try clear p6
        try clear c7
        try clear c9
        try clear c9b0
        try clear c12
        try clear c14
        try clear c14b0
        try clear c15
        try clear hcz10_0
        try clear hcz10_1
        try clear hcz10_2
        try clear hcz10_3
        try clear hcz10_4
        try clear hcz11_0
        try clear hcz11_1
        try clear hcz11_2
        try clear hcz11_3
        try clear hcz11_4
        try clear hcz15_0
        try clear hcz15_1
        try clear hcz15_2
        try clear hcz15_3
        try clear hcz15_4
        try clear hcz16_0
        try clear hcz16_1
        try clear hcz16_2
        try clear hcz16_3
        try clear hcz16_4
        try clear hcz5_0
        try clear hcz5_1
        try clear hcz5_2
        try clear hcz5_3
        try clear hcz5_4
        try clear hcz6_0
        try clear hcz6_1
        try clear hcz6_2
        try clear hcz6_3
        try clear hcz6_4
        try clear hfz10_0
        try clear hfz10_1
        try clear hfz10_2
        try clear hfz10_3
        try clear hfz10_4
        try clear hfz11_0
        try clear hfz11_1
        try clear hfz11_2
        try clear hfz11_3
        try clear hfz11_4
        try clear hfz15_0
        try clear hfz15_1
        try clear hfz15_2
        try clear hfz15_3
        try clear hfz15_4
        try clear hfz16_0
        try clear hfz16_1
        try clear hfz16_2
        try clear hfz16_3
        try clear hfz16_4
        try clear hfz5_0
        try clear hfz5_1
        try clear hfz5_2
        try clear hfz5_3
        try clear hfz5_4
        try clear hfz6_0
        try clear hfz6_1
        try clear hfz6_2
        try clear hfz6_3
        try clear hfz6_4
        try clear p2
        try clear p6
        obtain ⟨kq, x27_12, rfl, HA, HJ12, BK138, HB⟩ := hcut
        cases kq with
        | zero => exact absurd HA.out (by simp [groatref11_Check.j2])
        | succ kj12 =>
         have H := HA.out
         clear HA
         simp only [groatref11_Check.j2] at H
         by_cases c17 : x27_12 = true
         ·subst c17
          have H1 : (some 3) = some r := by rw [if_pos rfl] at H; exact H
          clear H
          have H := H1
          clear H1
          obtain rfl := Option.some.inj H
          go_wp2
          go_ret
          exact ⟨by first | rfl | (simp [errW_none, errW_some] <;> rfl) | (simp [*, errW_none, errW_some] <;> rfl), by repeat (first | (with_reducible first | exact HB.out | apply below_alloc | apply pw_below_drewN | apply below_drew1 | refine below_set ?_ GE138.out) | exact HB.out)⟩
         ·replace c17 := Bool.eq_false_iff.mpr c17
          subst c17
          have H1 : (if a0_2 = 2 then (groatref11_Check.j3 kj12 99 a0_0 a0_1 a0_2 a0_3 a0_4) else (groatref11_Check.j3 kj12 999 a0_0 a0_1 a0_2 a0_3 a0_4)) = some r := by rw [if_neg (show ¬ (false = true) by decide)] at H; exact H
          clear H
          have H := H1
          clear H1
          have HC18 := Aside0.mk H
          clear H
          have hcz19_0 : wc.cell? ⟨gb138, 0, none⟩ = some (.int .i64 a0_0) := (blk_cell BK138.out 0).trans rfl
          have hcz19_1 : wc.cell? ⟨gb138, 1, none⟩ = some (.int .i64 a0_1) := (blk_cell BK138.out 1).trans rfl
          have hcz19_2 : wc.cell? ⟨gb138, 2, none⟩ = some (.int .i64 a0_2) := (blk_cell BK138.out 2).trans rfl
          have hcz19_3 : wc.cell? ⟨gb138, 3, none⟩ = some (.int .i64 a0_3) := (blk_cell BK138.out 3).trans rfl
          have hcz19_4 : wc.cell? ⟨gb138, 4, none⟩ = some (.int .i64 a0_4) := (blk_cell BK138.out 4).trans rfl
          have hfz19_0 := blk_frozen BK138.out 0
          have hfz19_1 := blk_frozen BK138.out 1
          have hfz19_2 := blk_frozen BK138.out 2
          have hfz19_3 := blk_frozen BK138.out 3
          have hfz19_4 := blk_frozen BK138.out 4
          go_upto_if 30 with (fail)
          go_cut [3] (fun v3 wc => ∃ (kq : Nat) (x3_17 : Int), v3 = .int .i64 x3_17 ∧ Aside0 (groatref11_Check.j3 kq x3_17 a0_0 a0_1 a0_2 a0_3 a0_4 = some r) ∧ Aside0 (kq ≤ kj12) ∧ Aside0 (wc.heap[gb138]? = some (.cells #[.int .i64 a0_0, .int .i64 a0_1, .int .i64 a0_2, .int .i64 a0_3, .int .i64 a0_4] 23 (0, 0))) ∧ Aside0 (Below w.heap.size w wc))
          case first =>
           have H := HC18.out
           clear HC18
           by_cases c20 : a0_2 = 2
           ·rw [if_pos c20] at H
            have c20b0 : (a0_2 == 2) = true := beq_iff_eq.mpr c20
            have c20b1 : (a0_2 != 2) = false := bne_eq_false_iff_eq.mpr c20
            clear c20
            (first | rw [c20b0] | (simp only [i64_w, i32_w]; rw [c20b0]) | skip)
            have H' := Aside0.mk H
            clear H
            go_wp2
            go_meet
            case rel => exact ⟨_, (99), (by first | rfl | (simp; done) | (simp [*]; done) | (simp [wrap64]; done)), H', ⟨by have := HJ1.out; have := HJ7.out; have := HJ12.out; first | omega | exact Nat.le_refl _⟩, ⟨by (with_reducible repeat (first | refine blk_drewN ?_ _ | refine blk_drew ?_ | refine blk_alloc ?_ _)); exact BK138.out⟩, ⟨by repeat (first | (with_reducible first | exact HB.out | apply below_alloc | apply pw_below_drewN | apply below_drew1 | refine below_set ?_ GE138.out) | exact HB.out)⟩⟩
           ·rw [if_neg c20] at H
            have c20b0 : (a0_2 == 2) = false := beq_eq_false_iff_ne.mpr c20
            have c20b1 : (a0_2 != 2) = true := bne_iff_ne.mpr c20
            (first | rw [c20b0] | (simp only [i64_w, i32_w]; rw [c20b0]) | skip)
            have H' := Aside0.mk H
            clear H
            go_wp2
            go_meet
            case rel => exact ⟨_, (999), (by first | rfl | (simp; done) | (simp [*]; done) | (simp [wrap64]; done)), H', ⟨by have := HJ1.out; have := HJ7.out; have := HJ12.out; first | omega | exact Nat.le_refl _⟩, ⟨by (with_reducible repeat (first | refine blk_drewN ?_ _ | refine blk_drew ?_ | refine blk_alloc ?_ _)); exact BK138.out⟩, ⟨by repeat (first | (with_reducible first | exact HB.out | apply below_alloc | apply pw_below_drewN | apply below_drew1 | refine below_set ?_ GE138.out) | exact HB.out)⟩⟩
          case rest =>
           clear HC18
           try clear c1
           try clear c2
           try clear p2
           try clear c4
           try clear c4b0
           try clear p6
           try clear c7
           try clear c9
           try clear c9b0
           try clear c12
           try clear c14
           try clear c14b0
           try clear c15
           try clear c17
           try clear c20
           try clear c20b0
           try clear c20b1
           try clear hcz10_0
           try clear hcz10_1
           try clear hcz10_2
           try clear hcz10_3
           try clear hcz10_4
           try clear hcz11_0
           try clear hcz11_1
           try clear hcz11_2
           try clear hcz11_3
           try clear hcz11_4
           try clear hcz15_0
           try clear hcz15_1
           try clear hcz15_2
           try clear hcz15_3
           try clear hcz15_4
           try clear hcz16_0
           try clear hcz16_1
           try clear hcz16_2
           try clear hcz16_3
           try clear hcz16_4
           try clear hcz19_0
           try clear hcz19_1
           try clear hcz19_2
           try clear hcz19_3
           try clear hcz19_4
           try clear hcz5_0
           try clear hcz5_1
           try clear hcz5_2
           try clear hcz5_3
           try clear hcz5_4
           try clear hcz6_0
           try clear hcz6_1
           try clear hcz6_2
           try clear hcz6_3
           try clear hcz6_4
           try clear hfz10_0
           try clear hfz10_1
           try clear hfz10_2
           try clear hfz10_3
           try clear hfz10_4
           try clear hfz11_0
           try clear hfz11_1
           try clear hfz11_2
           try clear hfz11_3
           try clear hfz11_4
           try clear hfz15_0
           try clear hfz15_1
           try clear hfz15_2
           try clear hfz15_3
           try clear hfz15_4
           try clear hfz16_0
           try clear hfz16_1
           try clear hfz16_2
           try clear hfz16_3
           try clear hfz16_4
           try clear hfz19_0
           try clear hfz19_1
           try clear hfz19_2
           try clear hfz19_3
           try clear hfz19_4
           try clear hfz5_0
           try clear hfz5_1
           try clear hfz5_2
           try clear hfz5_3
           try clear hfz5_4
           try clear hfz6_0
           try clear hfz6_1
           try clear hfz6_2
           try clear hfz6_3
           try clear hfz6_4
           try clear p2
           try clear p6
           obtain ⟨kq, x3_17, rfl, HA, HJ17, BK138, HB⟩ := hcut
           cases kq with
           | zero => exact absurd HA.out (by simp [groatref11_Check.j3])
           | succ kj17 =>
            have H := HA.out
            clear HA
            simp only [groatref11_Check.j3] at H
            have HC21 := Aside0.mk H
            clear H
            go_upto_region 10 with (fail)
            go_cut [58] (fun v58 wc => ∃ (kq : Nat) (x58_20 : Bool), v58 = .bool x58_20 ∧ Aside0 (groatref11_Check.j4 kq x58_20 a0_0 a0_1 a0_2 a0_3 a0_4 = some r) ∧ Aside0 (kq ≤ kj17) ∧ Aside0 (wc.heap[gb138]? = some (.cells #[.int .i64 a0_0, .int .i64 a0_1, .int .i64 a0_2, .int .i64 a0_3, .int .i64 a0_4] 23 (0, 0))) ∧ Aside0 (Below w.heap.size w wc))
            case first =>
             have H := HC21.out
             clear HC21
             by_cases c22 : a0_3 < 1
             ·rw [if_pos c22] at H
              have c22b0 : decide (a0_3 < 1) = true := decide_eq_true c22
              clear c22
              (first | rw [c22b0] | (simp only [i64_w, i32_w]; rw [c22b0]) | skip)
              have H' := Aside0.mk H
              clear H
              have hcz23_0 : wc.cell? ⟨gb138, 0, none⟩ = some (.int .i64 a0_0) := (blk_cell BK138.out 0).trans rfl
              have hcz23_1 : wc.cell? ⟨gb138, 1, none⟩ = some (.int .i64 a0_1) := (blk_cell BK138.out 1).trans rfl
              have hcz23_2 : wc.cell? ⟨gb138, 2, none⟩ = some (.int .i64 a0_2) := (blk_cell BK138.out 2).trans rfl
              have hcz23_3 : wc.cell? ⟨gb138, 3, none⟩ = some (.int .i64 a0_3) := (blk_cell BK138.out 3).trans rfl
              have hcz23_4 : wc.cell? ⟨gb138, 4, none⟩ = some (.int .i64 a0_4) := (blk_cell BK138.out 4).trans rfl
              have hfz23_0 := blk_frozen BK138.out 0
              have hfz23_1 := blk_frozen BK138.out 1
              have hfz23_2 := blk_frozen BK138.out 2
              have hfz23_3 := blk_frozen BK138.out 3
              have hfz23_4 := blk_frozen BK138.out 4
              go_wp2
              go_meet
              case rel => exact ⟨_, (true), (by first | rfl | (simp; done) | (simp [*]; done) | (simp [wrap64]; done)), H', ⟨by have := HJ1.out; have := HJ7.out; have := HJ12.out; have := HJ17.out; first | omega | exact Nat.le_refl _⟩, ⟨by (with_reducible repeat (first | refine blk_drewN ?_ _ | refine blk_drew ?_ | refine blk_alloc ?_ _)); exact BK138.out⟩, ⟨by repeat (first | (with_reducible first | exact HB.out | apply below_alloc | apply pw_below_drewN | apply below_drew1 | refine below_set ?_ GE138.out) | exact HB.out)⟩⟩
             ·rw [if_neg c22] at H
              have c22b0 : decide (a0_3 < 1) = false := decide_eq_false c22
              clear c22
              (first | rw [c22b0] | (simp only [i64_w, i32_w]; rw [c22b0]) | skip)
              by_cases c24 : a0_4 < a0_3
              ·rw [if_pos c24] at H
               have c24b0 : decide (a0_4 < a0_3) = true := decide_eq_true c24
               clear c24
               have H' := Aside0.mk H
               clear H
               have hcz25_0 : wc.cell? ⟨gb138, 0, none⟩ = some (.int .i64 a0_0) := (blk_cell BK138.out 0).trans rfl
               have hcz25_1 : wc.cell? ⟨gb138, 1, none⟩ = some (.int .i64 a0_1) := (blk_cell BK138.out 1).trans rfl
               have hcz25_2 : wc.cell? ⟨gb138, 2, none⟩ = some (.int .i64 a0_2) := (blk_cell BK138.out 2).trans rfl
               have hcz25_3 : wc.cell? ⟨gb138, 3, none⟩ = some (.int .i64 a0_3) := (blk_cell BK138.out 3).trans rfl
               have hcz25_4 : wc.cell? ⟨gb138, 4, none⟩ = some (.int .i64 a0_4) := (blk_cell BK138.out 4).trans rfl
               have hfz25_0 := blk_frozen BK138.out 0
               have hfz25_1 := blk_frozen BK138.out 1
               have hfz25_2 := blk_frozen BK138.out 2
               have hfz25_3 := blk_frozen BK138.out 3
               have hfz25_4 := blk_frozen BK138.out 4
               go_wp2
               go_meet
               case rel => exact ⟨_, (true), (by first | rfl | (simp; done) | (simp [*]; done) | (simp [wrap64]; done)), H', ⟨by have := HJ1.out; have := HJ7.out; have := HJ12.out; have := HJ17.out; first | omega | exact Nat.le_refl _⟩, ⟨by (with_reducible repeat (first | refine blk_drewN ?_ _ | refine blk_drew ?_ | refine blk_alloc ?_ _)); exact BK138.out⟩, ⟨by repeat (first | (with_reducible first | exact HB.out | apply below_alloc | apply pw_below_drewN | apply below_drew1 | refine below_set ?_ GE138.out) | exact HB.out)⟩⟩
              ·rw [if_neg c24] at H
               have c24b0 : decide (a0_4 < a0_3) = false := decide_eq_false c24
               clear c24
               by_cases c26 : a0_4 > x3_17
               ·rw [if_pos c26] at H
                have c26b0 : decide (x3_17 < a0_4) = true := decide_eq_true c26
                clear c26
                have H' := Aside0.mk H
                clear H
                have hcz27_0 : wc.cell? ⟨gb138, 0, none⟩ = some (.int .i64 a0_0) := (blk_cell BK138.out 0).trans rfl
                have hcz27_1 : wc.cell? ⟨gb138, 1, none⟩ = some (.int .i64 a0_1) := (blk_cell BK138.out 1).trans rfl
                have hcz27_2 : wc.cell? ⟨gb138, 2, none⟩ = some (.int .i64 a0_2) := (blk_cell BK138.out 2).trans rfl
                have hcz27_3 : wc.cell? ⟨gb138, 3, none⟩ = some (.int .i64 a0_3) := (blk_cell BK138.out 3).trans rfl
                have hcz27_4 : wc.cell? ⟨gb138, 4, none⟩ = some (.int .i64 a0_4) := (blk_cell BK138.out 4).trans rfl
                have hfz27_0 := blk_frozen BK138.out 0
                have hfz27_1 := blk_frozen BK138.out 1
                have hfz27_2 := blk_frozen BK138.out 2
                have hfz27_3 := blk_frozen BK138.out 3
                have hfz27_4 := blk_frozen BK138.out 4
                go_wp2
                go_meet
                case rel => exact ⟨_, (true), (by first | rfl | (simp; done) | (simp [*]; done) | (simp [wrap64]; done)), H', ⟨by have := HJ1.out; have := HJ7.out; have := HJ12.out; have := HJ17.out; first | omega | exact Nat.le_refl _⟩, ⟨by (with_reducible repeat (first | refine blk_drewN ?_ _ | refine blk_drew ?_ | refine blk_alloc ?_ _)); exact BK138.out⟩, ⟨by repeat (first | (with_reducible first | exact HB.out | apply below_alloc | apply pw_below_drewN | apply below_drew1 | refine below_set ?_ GE138.out) | exact HB.out)⟩⟩
               ·rw [if_neg c26] at H
                have c26b0 : decide (x3_17 < a0_4) = false := decide_eq_false c26
                clear c26
                by_cases c28 : a0_2 = 1
                ·rw [if_pos c28] at H
                 have c28b0 : (a0_2 == 1) = true := beq_iff_eq.mpr c28
                 have c28b1 : (a0_2 != 1) = false := bne_eq_false_iff_eq.mpr c28
                 clear c28
                 have H' := Aside0.mk H
                 clear H
                 have hcz29_0 : wc.cell? ⟨gb138, 0, none⟩ = some (.int .i64 a0_0) := (blk_cell BK138.out 0).trans rfl
                 have hcz29_1 : wc.cell? ⟨gb138, 1, none⟩ = some (.int .i64 a0_1) := (blk_cell BK138.out 1).trans rfl
                 have hcz29_2 : wc.cell? ⟨gb138, 2, none⟩ = some (.int .i64 a0_2) := (blk_cell BK138.out 2).trans rfl
                 have hcz29_3 : wc.cell? ⟨gb138, 3, none⟩ = some (.int .i64 a0_3) := (blk_cell BK138.out 3).trans rfl
                 have hcz29_4 : wc.cell? ⟨gb138, 4, none⟩ = some (.int .i64 a0_4) := (blk_cell BK138.out 4).trans rfl
                 have hfz29_0 := blk_frozen BK138.out 0
                 have hfz29_1 := blk_frozen BK138.out 1
                 have hfz29_2 := blk_frozen BK138.out 2
                 have hfz29_3 := blk_frozen BK138.out 3
                 have hfz29_4 := blk_frozen BK138.out 4
                 go_wp2
                 go_meet
                 case rel => exact ⟨_, ((a0_3 != a0_4)), (by first | rfl | (simp; done) | (simp [*]; done) | (simp [wrap64]; done)), H', ⟨by have := HJ1.out; have := HJ7.out; have := HJ12.out; have := HJ17.out; first | omega | exact Nat.le_refl _⟩, ⟨by (with_reducible repeat (first | refine blk_drewN ?_ _ | refine blk_drew ?_ | refine blk_alloc ?_ _)); exact BK138.out⟩, ⟨by repeat (first | (with_reducible first | exact HB.out | apply below_alloc | apply pw_below_drewN | apply below_drew1 | refine below_set ?_ GE138.out) | exact HB.out)⟩⟩
                ·rw [if_neg c28] at H
                 have c28b0 : (a0_2 == 1) = false := beq_eq_false_iff_ne.mpr c28
                 have c28b1 : (a0_2 != 1) = true := bne_iff_ne.mpr c28
                 have H' := Aside0.mk H
                 clear H
                 have hcz30_0 : wc.cell? ⟨gb138, 0, none⟩ = some (.int .i64 a0_0) := (blk_cell BK138.out 0).trans rfl
                 have hcz30_1 : wc.cell? ⟨gb138, 1, none⟩ = some (.int .i64 a0_1) := (blk_cell BK138.out 1).trans rfl
                 have hcz30_2 : wc.cell? ⟨gb138, 2, none⟩ = some (.int .i64 a0_2) := (blk_cell BK138.out 2).trans rfl
                 have hcz30_3 : wc.cell? ⟨gb138, 3, none⟩ = some (.int .i64 a0_3) := (blk_cell BK138.out 3).trans rfl
                 have hcz30_4 : wc.cell? ⟨gb138, 4, none⟩ = some (.int .i64 a0_4) := (blk_cell BK138.out 4).trans rfl
                 have hfz30_0 := blk_frozen BK138.out 0
                 have hfz30_1 := blk_frozen BK138.out 1
                 have hfz30_2 := blk_frozen BK138.out 2
                 have hfz30_3 := blk_frozen BK138.out 3
                 have hfz30_4 := blk_frozen BK138.out 4
                 go_wp2
                 go_meet
                 case rel => exact ⟨_, (false), (by first | rfl | (simp; done) | (simp [*]; done) | (simp [wrap64]; done)), H', ⟨by have := HJ1.out; have := HJ7.out; have := HJ12.out; have := HJ17.out; first | omega | exact Nat.le_refl _⟩, ⟨by (with_reducible repeat (first | refine blk_drewN ?_ _ | refine blk_drew ?_ | refine blk_alloc ?_ _)); exact BK138.out⟩, ⟨by repeat (first | (with_reducible first | exact HB.out | apply below_alloc | apply pw_below_drewN | apply below_drew1 | refine below_set ?_ GE138.out) | exact HB.out)⟩⟩
            case rest =>
             clear HC21
             try clear c1
             try clear c2
             try clear p2
             try clear c4
             try clear c4b0
             try clear p6
             try clear c7
             try clear c9
             try clear c9b0
             try clear c12
             try clear c14
             try clear c14b0
             try clear c15
             try clear c17
             try clear c20
             try clear c20b0
             try clear c20b1
             try clear c22
             try clear c22b0
             try clear c24
             try clear c24b0
             try clear c26
             try clear c26b0
             try clear c28
             try clear c28b0
             try clear c28b1
             try clear hcz10_0
             try clear hcz10_1
             try clear hcz10_2
             try clear hcz10_3
             try clear hcz10_4
             try clear hcz11_0
             try clear hcz11_1
             try clear hcz11_2
             try clear hcz11_3
             try clear hcz11_4
             try clear hcz15_0
             try clear hcz15_1
             try clear hcz15_2
             try clear hcz15_3
             try clear hcz15_4
             try clear hcz16_0
             try clear hcz16_1
             try clear hcz16_2
             try clear hcz16_3
             try clear hcz16_4
             try clear hcz19_0
             try clear hcz19_1
             try clear hcz19_2
             try clear hcz19_3
             try clear hcz19_4
             try clear hcz23_0
             try clear hcz23_1
             try clear hcz23_2
             try clear hcz23_3
             try clear hcz23_4
             try clear hcz25_0
             try clear hcz25_1
             try clear hcz25_2
             try clear hcz25_3
             try clear hcz25_4
             try clear hcz27_0
             try clear hcz27_1
             try clear hcz27_2
             try clear hcz27_3
             try clear hcz27_4
             try clear hcz29_0
             try clear hcz29_1
             try clear hcz29_2
             try clear hcz29_3
             try clear hcz29_4
             try clear hcz30_0
             try clear hcz30_1
             try clear hcz30_2
             try clear hcz30_3
             try clear hcz30_4
             try clear hcz5_0
             try clear hcz5_1
             try clear hcz5_2
             try clear hcz5_3
             try clear hcz5_4
             try clear hcz6_0
             try clear hcz6_1
             try clear hcz6_2
             try clear hcz6_3
             try clear hcz6_4
             try clear hfz10_0
             try clear hfz10_1
             try clear hfz10_2
             try clear hfz10_3
             try clear hfz10_4
             try clear hfz11_0
             try clear hfz11_1
             try clear hfz11_2
             try clear hfz11_3
             try clear hfz11_4
             try clear hfz15_0
             try clear hfz15_1
             try clear hfz15_2
             try clear hfz15_3
             try clear hfz15_4
             try clear hfz16_0
             try clear hfz16_1
             try clear hfz16_2
             try clear hfz16_3
             try clear hfz16_4
             try clear hfz19_0
             try clear hfz19_1
             try clear hfz19_2
             try clear hfz19_3
             try clear hfz19_4
             try clear hfz23_0
             try clear hfz23_1
             try clear hfz23_2
             try clear hfz23_3
             try clear hfz23_4
             try clear hfz25_0
             try clear hfz25_1
             try clear hfz25_2
             try clear hfz25_3
             try clear hfz25_4
             try clear hfz27_0
             try clear hfz27_1
             try clear hfz27_2
             try clear hfz27_3
             try clear hfz27_4
             try clear hfz29_0
             try clear hfz29_1
             try clear hfz29_2
             try clear hfz29_3
             try clear hfz29_4
             try clear hfz30_0
             try clear hfz30_1
             try clear hfz30_2
             try clear hfz30_3
             try clear hfz30_4
             try clear hfz5_0
             try clear hfz5_1
             try clear hfz5_2
             try clear hfz5_3
             try clear hfz5_4
             try clear hfz6_0
             try clear hfz6_1
             try clear hfz6_2
             try clear hfz6_3
             try clear hfz6_4
             try clear p2
             try clear p6
             obtain ⟨kq, x58_20, rfl, HA, HJ20, BK138, HB⟩ := hcut
             cases kq with
             | zero => exact absurd HA.out (by simp [groatref11_Check.j4])
             | succ kj20 =>
              have H := HA.out
              clear HA
              simp only [groatref11_Check.j4] at H
              by_cases c31 : x58_20 = true
              ·subst c31
               have H1 : (some 5) = some r := by rw [if_pos rfl] at H; exact H
               clear H
               have H := H1
               clear H1
               obtain rfl := Option.some.inj H
               go_wp2
               go_ret
               exact ⟨by first | rfl | (simp [errW_none, errW_some] <;> rfl) | (simp [*, errW_none, errW_some] <;> rfl), by repeat (first | (with_reducible first | exact HB.out | apply below_alloc | apply pw_below_drewN | apply below_drew1 | refine below_set ?_ GE138.out) | exact HB.out)⟩
              ·replace c31 := Bool.eq_false_iff.mpr c31
               subst c31
               have H1 : (if a0_2 = 1 then (if a0_1 = 6 then (some 13) else (some 0)) else (some 0)) = some r := by rw [if_neg (show ¬ (false = true) by decide)] at H; exact H
               clear H
               have H := H1
               clear H1
               by_cases c32 : a0_2 = 1
               ·rw [if_pos c32] at H
                have c32b0 : (a0_2 == 1) = true := beq_iff_eq.mpr c32
                have c32b1 : (a0_2 != 1) = false := bne_eq_false_iff_eq.mpr c32
                clear c32
                by_cases c33 : a0_1 = 6
                ·rw [if_pos c33] at H
                 have c33b0 : (a0_1 == 6) = true := beq_iff_eq.mpr c33
                 have c33b1 : (a0_1 != 6) = false := bne_eq_false_iff_eq.mpr c33
                 clear c33
                 obtain rfl := Option.some.inj H
                 have hcz34_0 : wc.cell? ⟨gb138, 0, none⟩ = some (.int .i64 a0_0) := (blk_cell BK138.out 0).trans rfl
                 have hcz34_1 : wc.cell? ⟨gb138, 1, none⟩ = some (.int .i64 a0_1) := (blk_cell BK138.out 1).trans rfl
                 have hcz34_2 : wc.cell? ⟨gb138, 2, none⟩ = some (.int .i64 a0_2) := (blk_cell BK138.out 2).trans rfl
                 have hcz34_3 : wc.cell? ⟨gb138, 3, none⟩ = some (.int .i64 a0_3) := (blk_cell BK138.out 3).trans rfl
                 have hcz34_4 : wc.cell? ⟨gb138, 4, none⟩ = some (.int .i64 a0_4) := (blk_cell BK138.out 4).trans rfl
                 have hfz34_0 := blk_frozen BK138.out 0
                 have hfz34_1 := blk_frozen BK138.out 1
                 have hfz34_2 := blk_frozen BK138.out 2
                 have hfz34_3 := blk_frozen BK138.out 3
                 have hfz34_4 := blk_frozen BK138.out 4
                 go_wp2
                 go_ret
                 exact ⟨by first | rfl | (simp [errW_none, errW_some] <;> rfl) | (simp [*, errW_none, errW_some] <;> rfl), by repeat (first | (with_reducible first | exact HB.out | apply below_alloc | apply pw_below_drewN | apply below_drew1 | refine below_set ?_ GE138.out) | exact HB.out)⟩
                ·rw [if_neg c33] at H
                 have c33b0 : (a0_1 == 6) = false := beq_eq_false_iff_ne.mpr c33
                 have c33b1 : (a0_1 != 6) = true := bne_iff_ne.mpr c33
                 obtain rfl := Option.some.inj H
                 have hcz35_0 : wc.cell? ⟨gb138, 0, none⟩ = some (.int .i64 a0_0) := (blk_cell BK138.out 0).trans rfl
                 have hcz35_1 : wc.cell? ⟨gb138, 1, none⟩ = some (.int .i64 a0_1) := (blk_cell BK138.out 1).trans rfl
                 have hcz35_2 : wc.cell? ⟨gb138, 2, none⟩ = some (.int .i64 a0_2) := (blk_cell BK138.out 2).trans rfl
                 have hcz35_3 : wc.cell? ⟨gb138, 3, none⟩ = some (.int .i64 a0_3) := (blk_cell BK138.out 3).trans rfl
                 have hcz35_4 : wc.cell? ⟨gb138, 4, none⟩ = some (.int .i64 a0_4) := (blk_cell BK138.out 4).trans rfl
                 have hfz35_0 := blk_frozen BK138.out 0
                 have hfz35_1 := blk_frozen BK138.out 1
                 have hfz35_2 := blk_frozen BK138.out 2
                 have hfz35_3 := blk_frozen BK138.out 3
                 have hfz35_4 := blk_frozen BK138.out 4
                 go_wp2
                 go_ret
                 exact ⟨by first | rfl | (simp [errW_none, errW_some] <;> rfl) | (simp [*, errW_none, errW_some] <;> rfl), by repeat (first | (with_reducible first | exact HB.out | apply below_alloc | apply pw_below_drewN | apply below_drew1 | refine below_set ?_ GE138.out) | exact HB.out)⟩
               ·rw [if_neg c32] at H
                have c32b0 : (a0_2 == 1) = false := beq_eq_false_iff_ne.mpr c32
                have c32b1 : (a0_2 != 1) = true := bne_iff_ne.mpr c32
                obtain rfl := Option.some.inj H
                have hcz36_0 : wc.cell? ⟨gb138, 0, none⟩ = some (.int .i64 a0_0) := (blk_cell BK138.out 0).trans rfl
                have hcz36_1 : wc.cell? ⟨gb138, 1, none⟩ = some (.int .i64 a0_1) := (blk_cell BK138.out 1).trans rfl
                have hcz36_2 : wc.cell? ⟨gb138, 2, none⟩ = some (.int .i64 a0_2) := (blk_cell BK138.out 2).trans rfl
                have hcz36_3 : wc.cell? ⟨gb138, 3, none⟩ = some (.int .i64 a0_3) := (blk_cell BK138.out 3).trans rfl
                have hcz36_4 : wc.cell? ⟨gb138, 4, none⟩ = some (.int .i64 a0_4) := (blk_cell BK138.out 4).trans rfl
                have hfz36_0 := blk_frozen BK138.out 0
                have hfz36_1 := blk_frozen BK138.out 1
                have hfz36_2 := blk_frozen BK138.out 2
                have hfz36_3 := blk_frozen BK138.out 3
                have hfz36_4 := blk_frozen BK138.out 4
                go_wp2
                go_ret
                exact ⟨by first | rfl | (simp [errW_none, errW_some] <;> rfl) | (simp [*, errW_none, errW_some] <;> rfl), by repeat (first | (with_reducible first | exact HB.out | apply below_alloc | apply pw_below_drewN | apply below_drew1 | refine below_set ?_ GE138.out) | exact HB.out)⟩

end Go.Proofs.Ytfaeodcapagjbaa.P
