-- written for this claim by wip/pp.py
import Derived.Test.YtfaeodcapagjbaaPx0
import Derived.Test.YtfaeodcapagjbaaPx6
import Derived.Test.YtfaeodcapagjbaaPx9
import Derived.Test.YtfaeodcapagjbaaPx12
import Derived.Test.YtfaeodcapagjbaaPx25
namespace Go.Proofs.Ytfaeodcapagjbaa.P
open Go.RowKit Go.Proofs.YtfaeodcapagjbaaW.PrintWords Go.Proofs.YtfaeodcapagjbaaW.PrintLast Go.Proofs.YtfaeodcapagjbaaW.PrintMore
attribute [local go_sem] max2_int min2_int max_two min_two max_three min_three max_four min_four   -- for this text's walks alone
set_option linter.unusedVariables false
set_option linter.unusedSimpArgs false

/-! ### groatref12_Put: function 22 -/
def groatref12_Put.j0 : Nat → Int → ByteArray → Bool → Int → Int → Int → Int → Int → Option (ByteArray × Int)
 | 0, _, _, _, _, _, _, _, _ => none
 | k + 1, x0, x2, x15, x336000, x336001, x336002, x336003, x336004 => if x15 = true then (some ((⟨#[]⟩ : ByteArray), 1)) else ((groatref11_Value.f k x336000 x336001 x336002 x336003 x336004 x2).bind fun t336 => (if t336 = 0 then (if x336002 = 1 then ((groatref12_content.f k x0 x336001 x2).bind fun t337 => (if 0 + t337.size ≤ 9223372036854775807 then (some ((⟨#[]⟩ : ByteArray) ++ t337, 0)) else (none))) else ((groatref07_Put.f k x0 x336002 (x2.size : Int)).bind fun bt338 => ((groatref12_content.f k x0 x336001 x2).bind fun t340 => (if bt338.1.size + t340.size ≤ 9223372036854775807 then (some (bt338.1 ++ t340, 0)) else (none))))) else (some ((⟨#[]⟩ : ByteArray), t336))))
def groatref12_Put.f (k : Nat) (a0 : Int) (a1_0 : Int) (a1_1 : Int) (a1_2 : Int) (a1_3 : Int) (a1_4 : Int) (a2 : ByteArray) : Option (ByteArray × Int) := if a0 = 1 then (groatref12_Put.j0 k a0 a2 false a1_0 a1_1 a1_2 a1_3 a1_4) else (groatref12_Put.j0 k a0 a2 (a0 != 2) a1_0 a1_1 a1_2 a1_3 a1_4)
theorem groatref12_Put.mono_l : ∀ k, (∀ y0 y1 y2 y3 y4 y5 y6 y7, LeO (groatref12_Put.j0 k y0 y1 y2 y3 y4 y5 y6 y7) (groatref12_Put.j0 (k + 1) y0 y1 y2 y3 y4 y5 y6 y7))
 | 0 => fun _ _ _ _ _ _ _ _ r h => by simp [groatref12_Put.j0] at h
 | k + 1 => by
  have ih0 := groatref12_Put.mono_l k
  ·intro y0 y1 y2 y3 y4 y5 y6 y7
   unfold groatref12_Put.j0
   repeat' first
   | (with_reducible exact ih0 _ _ _ _ _ _ _ _)
   | (with_reducible exact groatref07_Put.mono _ _ _ _)
   | (with_reducible exact groatref11_Value.mono _ _ _ _ _ _ _)
   | (with_reducible exact groatref12_content.mono _ _ _ _)
   | (with_reducible exact LeO.refl _)
   | (with_reducible exact LeO.none _)
   | (with_reducible refine LeO.ite ?_ ?_)
   | (with_reducible refine LeO.bind ?_ (fun _ => ?_))
   | exact ih0 _ _ _ _ _ _ _ _
   | exact groatref07_Put.mono _ _ _ _
   | exact groatref11_Value.mono _ _ _ _ _ _ _
   | exact groatref12_content.mono _ _ _ _
   | exact LeO.none _
   | refine LeO.ite ?_ ?_
   | refine LeO.bind ?_ (fun _ => ?_)
theorem groatref12_Put.mono : ∀ a0 a1 a2 a3 a4 a5 a6 k, LeO (groatref12_Put.f k a0 a1 a2 a3 a4 a5 a6) (groatref12_Put.f (k + 1) a0 a1 a2 a3 a4 a5 a6) := by
 intro a0 a1 a2 a3 a4 a5 a6 k
 have ih0 := groatref12_Put.mono_l k
 unfold groatref12_Put.f
 repeat' first
   | (with_reducible exact ih0 _ _ _ _ _ _ _ _)
   | (with_reducible exact groatref07_Put.mono _ _ _ _)
   | (with_reducible exact groatref11_Value.mono _ _ _ _ _ _ _)
   | (with_reducible exact groatref12_content.mono _ _ _ _)
   | (with_reducible exact LeO.refl _)
   | (with_reducible exact LeO.none _)
   | (with_reducible refine LeO.ite ?_ ?_)
   | (with_reducible refine LeO.bind ?_ (fun _ => ?_))
   | exact ih0 _ _ _ _ _ _ _ _
   | exact groatref07_Put.mono _ _ _ _
   | exact groatref11_Value.mono _ _ _ _ _ _ _
   | exact groatref12_content.mono _ _ _ _
   | exact LeO.none _
   | refine LeO.ite ?_ ?_
   | refine LeO.bind ?_ (fun _ => ?_)
set_option maxHeartbeats 8000000 in
set_option maxRecDepth 100000 in
theorem groatref12_Put.calls (k : Nat) (a0 : Int) (a1_0 : Int) (a1_1 : Int) (a1_2 : Int) (a1_3 : Int) (a1_4 : Int) (a2 : ByteArray) (r1 : ByteArray) (r2 : Int) (w : World) (h : groatref12_Put.f k a0 a1_0 a1_1 a1_2 a1_3 a1_4 a2 = some (r1, r2)) :
  Calls Try.prog 22 #[.int .i64 a0, .agg #[.int .i64 a1_0, .int .i64 a1_1, .int .i64 a1_2, .int .i64 a1_3, .int .i64 a1_4], .string a2] w fun e w' => e = .returned (.tuple #[.string r1, .int .i64 r2]) ∧ Below w.heap.size w w' := by
 have hu23 := Try.underlying23
 have HB := Aside0.mk (Below.refl w.heap.size w)
 have H : (if a0 = 1 then (groatref12_Put.j0 k a0 a2 false a1_0 a1_1 a1_2 a1_3 a1_4) else (groatref12_Put.j0 k a0 a2 (a0 != 2) a1_0 a1_1 a1_2 a1_3 a1_4)) = some (r1, r2) := h
 clear h
 have HC4 := Aside0.mk H
 clear H
 go_enter Try.func22, Try.ntmps22
 go_upto_region 1 with (first | ((with_reducible refine gate_dst (N := 4) rfl ?_); refine box_event ?hg (N := 4) ?hd (cs := #[.int .i64 a1_0, .int .i64 a1_1, .int .i64 a1_2, .int .i64 a1_3, .int .i64 a1_4]) (t := 23) ?hr ?_; (case hd => rfl); (case hg => rfl); (case hr => first | (go_simp; done) | (go_simp; rfl) | (have hu8_ := IntKind.wrap_u8; go_simp; done) | (have hu8_ := IntKind.wrap_u8; go_simp; rfl) | (go_simp; simp [IntKind.wrap_u8]; done)); intro gb335 hg w5 hbox hb; have n0_ := Aside0.mk (below_step (by repeat (first | (with_reducible first | exact HB.out | apply below_alloc | apply pw_below_drewN | apply below_drew1) | exact HB.out)) hb); have n1_ := Aside0.mk (hbox); have n2_ := Aside0.mk ((by rw [hg]; exact (below_size (by repeat (first | (with_reducible first | exact HB.out | apply below_alloc | apply pw_below_drewN | apply below_drew1) | exact HB.out))) : w.heap.size ≤ gb335)); have n3_ := Aside0.mk ((by rw [hg]; exact (below_size (by repeat (first | (with_reducible first | exact HB.out | apply below_alloc | apply pw_below_drewN | apply below_drew1) | exact HB.out))) : w.heap.size ≤ gb335)); clear HB; have HB := n0_; have BK335 := n1_; have GW335 := n2_; have GE335 := n3_; clear n0_ n1_ n2_ n3_; clear hb hbox hg))
 (try simp only [Act.put, List.setIfInBounds_toArray, List.set_cons_zero, List.set_cons_succ])
 go_cut [15] (fun v15 wc => ∃ (kq : Nat) (x15_3 : Bool), v15 = .bool x15_3 ∧ Aside0 (groatref12_Put.j0 kq a0 a2 x15_3 a1_0 a1_1 a1_2 a1_3 a1_4 = some (r1, r2)) ∧ Aside0 (kq ≤ k) ∧ Aside0 (wc.heap[gb335]? = some (.cells #[.int .i64 a1_0, .int .i64 a1_1, .int .i64 a1_2, .int .i64 a1_3, .int .i64 a1_4] 23 (0, 0))) ∧ Aside0 (Below w.heap.size w wc))
 case first =>
  have H := HC4.out
  clear HC4
  by_cases c6 : a0 = 1
  ·rw [if_pos c6] at H
   have c6b0 : (a0 == 1) = true := beq_iff_eq.mpr c6
   have c6b1 : (a0 != 1) = false := bne_eq_false_iff_eq.mpr c6
   clear c6
   (first | rw [c6b0] | (simp only [i64_w, i32_w]; rw [c6b0]) | skip)
   have H' := Aside0.mk H
   clear H
   go_wp2
   go_meet
   case rel => exact ⟨_, (false), (by first | rfl | (simp; done) | (simp [*]; done) | (simp [wrap64]; done)), H', ⟨by first | omega | exact Nat.le_refl _⟩, ⟨by (with_reducible repeat (first | refine blk_drewN ?_ _ | refine blk_drew ?_ | refine blk_alloc ?_ _)); exact BK335.out⟩, ⟨by repeat (first | (with_reducible first | exact HB.out | apply below_alloc | apply pw_below_drewN | apply below_drew1 | refine below_set ?_ GE335.out) | exact HB.out)⟩⟩
  ·rw [if_neg c6] at H
   have c6b0 : (a0 == 1) = false := beq_eq_false_iff_ne.mpr c6
   have c6b1 : (a0 != 1) = true := bne_iff_ne.mpr c6
   (first | rw [c6b0] | (simp only [i64_w, i32_w]; rw [c6b0]) | skip)
   have H' := Aside0.mk H
   clear H
   go_wp2
   go_meet
   case rel => exact ⟨_, ((a0 != 2)), (by first | rfl | (simp; done) | (simp [*]; done) | (simp [wrap64]; done)), H', ⟨by first | omega | exact Nat.le_refl _⟩, ⟨by (with_reducible repeat (first | refine blk_drewN ?_ _ | refine blk_drew ?_ | refine blk_alloc ?_ _)); exact BK335.out⟩, ⟨by repeat (first | (with_reducible first | exact HB.out | apply below_alloc | apply pw_below_drewN | apply below_drew1 | refine below_set ?_ GE335.out) | exact HB.out)⟩⟩
 case rest =>
  clear HC4
  try clear c2
  try clear p2
  try clear c6
  try clear c6b0
  try clear c6b1
  try clear p6
  obtain ⟨kq, x15_3, rfl, HA, HJ3, BK335, HB⟩ := hcut
  cases kq with
  | zero => exact absurd HA.out (by simp [groatref12_Put.j0])
  | succ kj3 =>
   have H := HA.out
   clear HA
   simp only [groatref12_Put.j0] at H
   by_cases c7 : x15_3 = true
   ·subst c7
    have H1 : (some ((⟨#[]⟩ : ByteArray), 1)) = some (r1, r2) := by rw [if_pos rfl] at H; exact H
    clear H
    have H := H1
    clear H1
    simp only [Option.some.injEq, Prod.mk.injEq] at H
    obtain ⟨rfl, rfl⟩ := H
    go_wp2
    go_ret2
    exact ⟨by first | rfl | (simp [errW_none, errW_some] <;> rfl) | (simp [*, errW_none, errW_some] <;> rfl), by repeat (first | (with_reducible first | exact HB.out | apply below_alloc | apply pw_below_drewN | apply below_drew1 | refine below_set ?_ GE335.out) | exact HB.out)⟩
   ·replace c7 := Bool.eq_false_iff.mpr c7
    subst c7
    have H1 : ((groatref11_Value.f kj3 a1_0 a1_1 a1_2 a1_3 a1_4 a2).bind fun t336 => (if t336 = 0 then (if a1_2 = 1 then ((groatref12_content.f kj3 a0 a1_1 a2).bind fun t337 => (if 0 + t337.size ≤ 9223372036854775807 then (some ((⟨#[]⟩ : ByteArray) ++ t337, 0)) else (none))) else ((groatref07_Put.f kj3 a0 a1_2 (a2.size : Int)).bind fun bt338 => ((groatref12_content.f kj3 a0 a1_1 a2).bind fun t340 => (if bt338.1.size + t340.size ≤ 9223372036854775807 then (some (bt338.1 ++ t340, 0)) else (none))))) else (some ((⟨#[]⟩ : ByteArray), t336)))) = some (r1, r2) := by rw [if_neg (show ¬ (false = true) by decide)] at H; exact H
    clear H
    have H := H1
    clear H1
    replace H := Option.bind_eq_some_iff.mp H
    obtain ⟨t336, A80, H⟩ := H
    replace H : (if t336 = 0 then (if a1_2 = 1 then ((groatref12_content.f kj3 a0 a1_1 a2).bind fun t337 => (if 0 + t337.size ≤ 9223372036854775807 then (some ((⟨#[]⟩ : ByteArray) ++ t337, 0)) else (none))) else ((groatref07_Put.f kj3 a0 a1_2 (a2.size : Int)).bind fun bt338 => ((groatref12_content.f kj3 a0 a1_1 a2).bind fun t340 => (if bt338.1.size + t340.size ≤ 9223372036854775807 then (some (bt338.1 ++ t340, 0)) else (none))))) else (some ((⟨#[]⟩ : ByteArray), t336))) = some (r1, r2) := H
    have A8 := Aside0.mk A80
    clear A80
    by_cases c9 : t336 = 0
    ·rw [if_pos c9] at H
     have c9b0 : (t336 == 0) = true := beq_iff_eq.mpr c9
     have c9b1 : (t336 != 0) = false := bne_eq_false_iff_eq.mpr c9
     clear c9
     by_cases c10 : a1_2 = 1
     ·rw [if_pos c10] at H
      have c10b0 : (a1_2 == 1) = true := beq_iff_eq.mpr c10
      have c10b1 : (a1_2 != 1) = false := bne_eq_false_iff_eq.mpr c10
      clear c10
      replace H := Option.bind_eq_some_iff.mp H
      obtain ⟨t337, A110, H⟩ := H
      replace H : (if 0 + t337.size ≤ 9223372036854775807 then (some ((⟨#[]⟩ : ByteArray) ++ t337, 0)) else (none)) = some (r1, r2) := H
      have A11 := Aside0.mk A110
      clear A110
      by_cases c12 : 0 + t337.size ≤ 9223372036854775807
      ·rw [if_pos c12] at H
       have c12b0 := eq_true c12
       have c12b1 : decide (0 + t337.size ≤ 9223372036854775807) = true := decide_eq_true c12
       try have c12b2 : (9223372036854775807 < 0 + t337.size) = False := eq_false (Nat.not_lt.2 c12)
       try (have c12b3 := c12b2; simp only [ByteArray.size_extract, ByteArray.size_append, Nat.min_self, Nat.sub_zero] at c12b3)
       simp only [Option.some.injEq, Prod.mk.injEq] at H
       obtain ⟨rfl, rfl⟩ := H
       have hcz13_0 : wc.cell? ⟨gb335, 0, none⟩ = some (.int .i64 a1_0) := (blk_cell BK335.out 0).trans rfl
       have hcz13_1 : wc.cell? ⟨gb335, 1, none⟩ = some (.int .i64 a1_1) := (blk_cell BK335.out 1).trans rfl
       have hcz13_2 : wc.cell? ⟨gb335, 2, none⟩ = some (.int .i64 a1_2) := (blk_cell BK335.out 2).trans rfl
       have hcz13_3 : wc.cell? ⟨gb335, 3, none⟩ = some (.int .i64 a1_3) := (blk_cell BK335.out 3).trans rfl
       have hcz13_4 : wc.cell? ⟨gb335, 4, none⟩ = some (.int .i64 a1_4) := (blk_cell BK335.out 4).trans rfl
       have hfz13_0 := blk_frozen BK335.out 0
       have hfz13_1 := blk_frozen BK335.out 1
       have hfz13_2 := blk_frozen BK335.out 2
       have hfz13_3 := blk_frozen BK335.out 3
       have hfz13_4 := blk_frozen BK335.out 4
       go_wp2_with (first | ((with_reducible refine gate_callee (f := 17) rfl ?_); refine goesL_ (some 18) rfl rfl Try.func17 (by kernel_rfl) rfl #[.agg #[.int .i64 a1_0, .int .i64 a1_1, .int .i64 a1_2, .int .i64 a1_3, .int .i64 a1_4], .string a2] rfl (by (try simp only [List.map_toArray, List.map_cons, List.map_nil]); first | done | rfl | (simp only [List.length_drop, List.length_take]; rfl)) ?_; (with_reducible refine (groatref11_Value.calls kj3 a1_0 a1_1 a1_2 a1_3 a1_4 a2 t336 _ A8.out).mono ?_); rintro e w14 ⟨rfl, hb⟩; refine ⟨_, rfl, ?_⟩; have n0_ := Aside0.mk (blk_below (g := gb335) (o := .cells #[.int .i64 a1_0, .int .i64 a1_1, .int .i64 a1_2, .int .i64 a1_3, .int .i64 a1_4] 23 (0, 0)) (by (with_reducible repeat (first | refine blk_drewN ?_ _ | refine blk_drew ?_ | refine blk_alloc ?_ _)); exact BK335.out) hb); have n1_ := Aside0.mk (below_step (by repeat (first | (with_reducible first | exact HB.out | apply below_alloc | apply pw_below_drewN | apply below_drew1 | refine below_set ?_ GE335.out) | exact HB.out)) hb); clear BK335; clear HB; have BK335 := n0_; have HB := n1_; clear n0_ n1_; (try clear hb); (try clear hb2); (try clear hk); (try clear hi); have hcz15_0 : w14.cell? ⟨gb335, 0, none⟩ = some (.int .i64 a1_0) := (blk_cell BK335.out 0).trans rfl; have hcz15_1 : w14.cell? ⟨gb335, 1, none⟩ = some (.int .i64 a1_1) := (blk_cell BK335.out 1).trans rfl; have hcz15_2 : w14.cell? ⟨gb335, 2, none⟩ = some (.int .i64 a1_2) := (blk_cell BK335.out 2).trans rfl; have hcz15_3 : w14.cell? ⟨gb335, 3, none⟩ = some (.int .i64 a1_3) := (blk_cell BK335.out 3).trans rfl; have hcz15_4 : w14.cell? ⟨gb335, 4, none⟩ = some (.int .i64 a1_4) := (blk_cell BK335.out 4).trans rfl; have hfz15_0 := blk_frozen BK335.out 0; have hfz15_1 := blk_frozen BK335.out 1; have hfz15_2 := blk_frozen BK335.out 2; have hfz15_3 := blk_frozen BK335.out 3; have hfz15_4 := blk_frozen BK335.out 4) | ((with_reducible refine gate_callee (f := 39) rfl ?_); refine goesL_ (some 39) rfl rfl Try.func39 (by kernel_rfl) rfl #[.int .i64 a0, .int .i64 a1_1, .string a2] rfl (by (try simp only [List.map_toArray, List.map_cons, List.map_nil]); first | done | rfl | (simp only [List.length_drop, List.length_take]; rfl)) ?_; (with_reducible refine (groatref12_content.calls kj3 a0 a1_1 a2 t337 _ A11.out).mono ?_); rintro e w16 ⟨rfl, hb⟩; refine ⟨_, rfl, ?_⟩; have n0_ := Aside0.mk (blk_below (g := gb335) (o := .cells #[.int .i64 a1_0, .int .i64 a1_1, .int .i64 a1_2, .int .i64 a1_3, .int .i64 a1_4] 23 (0, 0)) (by (with_reducible repeat (first | refine blk_drewN ?_ _ | refine blk_drew ?_ | refine blk_alloc ?_ _)); exact BK335.out) hb); have n1_ := Aside0.mk (below_step (by repeat (first | (with_reducible first | exact HB.out | apply below_alloc | apply pw_below_drewN | apply below_drew1 | refine below_set ?_ GE335.out) | exact HB.out)) hb); clear BK335; clear HB; have BK335 := n0_; have HB := n1_; clear n0_ n1_; (try clear hb); (try clear hb2); (try clear hk); (try clear hi)))
       go_ret2
       exact ⟨by first | rfl | (simp [errW_none, errW_some] <;> rfl) | (simp [*, errW_none, errW_some] <;> rfl), by repeat (first | (with_reducible first | exact HB.out | apply below_alloc | apply pw_below_drewN | apply below_drew1 | refine below_set ?_ GE335.out) | exact HB.out)⟩
      ·rw [if_neg c12] at H
       exact absurd H (by simp)
     ·rw [if_neg c10] at H
      have c10b0 : (a1_2 == 1) = false := beq_eq_false_iff_ne.mpr c10
      have c10b1 : (a1_2 != 1) = true := bne_iff_ne.mpr c10
      replace H := Option.bind_eq_some_iff.mp H
      obtain ⟨⟨t338, t339⟩, A170, H⟩ := H
      replace H : ((groatref12_content.f kj3 a0 a1_1 a2).bind fun t340 => (if t338.size + t340.size ≤ 9223372036854775807 then (some (t338 ++ t340, 0)) else (none))) = some (r1, r2) := H
      have A17 := Aside0.mk A170
      clear A170
      replace H := Option.bind_eq_some_iff.mp H
      obtain ⟨t340, A180, H⟩ := H
      replace H : (if t338.size + t340.size ≤ 9223372036854775807 then (some (t338 ++ t340, 0)) else (none)) = some (r1, r2) := H
      have A18 := Aside0.mk A180
      clear A180
      by_cases c19 : t338.size + t340.size ≤ 9223372036854775807
      ·rw [if_pos c19] at H
       have c19b0 := eq_true c19
       have c19b1 : decide (t338.size + t340.size ≤ 9223372036854775807) = true := decide_eq_true c19
       try have c19b2 : (9223372036854775807 < t338.size + t340.size) = False := eq_false (Nat.not_lt.2 c19)
       try (have c19b3 := c19b2; simp only [ByteArray.size_extract, ByteArray.size_append, Nat.min_self, Nat.sub_zero] at c19b3)
       simp only [Option.some.injEq, Prod.mk.injEq] at H
       obtain ⟨rfl, rfl⟩ := H
       have hcz20_0 : wc.cell? ⟨gb335, 0, none⟩ = some (.int .i64 a1_0) := (blk_cell BK335.out 0).trans rfl
       have hcz20_1 : wc.cell? ⟨gb335, 1, none⟩ = some (.int .i64 a1_1) := (blk_cell BK335.out 1).trans rfl
       have hcz20_2 : wc.cell? ⟨gb335, 2, none⟩ = some (.int .i64 a1_2) := (blk_cell BK335.out 2).trans rfl
       have hcz20_3 : wc.cell? ⟨gb335, 3, none⟩ = some (.int .i64 a1_3) := (blk_cell BK335.out 3).trans rfl
       have hcz20_4 : wc.cell? ⟨gb335, 4, none⟩ = some (.int .i64 a1_4) := (blk_cell BK335.out 4).trans rfl
       have hfz20_0 := blk_frozen BK335.out 0
       have hfz20_1 := blk_frozen BK335.out 1
       have hfz20_2 := blk_frozen BK335.out 2
       have hfz20_3 := blk_frozen BK335.out 3
       have hfz20_4 := blk_frozen BK335.out 4
       go_wp2_with (first | ((with_reducible refine gate_callee (f := 17) rfl ?_); refine goesL_ (some 18) rfl rfl Try.func17 (by kernel_rfl) rfl #[.agg #[.int .i64 a1_0, .int .i64 a1_1, .int .i64 a1_2, .int .i64 a1_3, .int .i64 a1_4], .string a2] rfl (by (try simp only [List.map_toArray, List.map_cons, List.map_nil]); first | done | rfl | (simp only [List.length_drop, List.length_take]; rfl)) ?_; (with_reducible refine (groatref11_Value.calls kj3 a1_0 a1_1 a1_2 a1_3 a1_4 a2 t336 _ A8.out).mono ?_); rintro e w21 ⟨rfl, hb⟩; refine ⟨_, rfl, ?_⟩; have n0_ := Aside0.mk (blk_below (g := gb335) (o := .cells #[.int .i64 a1_0, .int .i64 a1_1, .int .i64 a1_2, .int .i64 a1_3, .int .i64 a1_4] 23 (0, 0)) (by (with_reducible repeat (first | refine blk_drewN ?_ _ | refine blk_drew ?_ | refine blk_alloc ?_ _)); exact BK335.out) hb); have n1_ := Aside0.mk (below_step (by repeat (first | (with_reducible first | exact HB.out | apply below_alloc | apply pw_below_drewN | apply below_drew1 | refine below_set ?_ GE335.out) | exact HB.out)) hb); clear BK335; clear HB; have BK335 := n0_; have HB := n1_; clear n0_ n1_; (try clear hb); (try clear hb2); (try clear hk); (try clear hi); have hcz22_0 : w21.cell? ⟨gb335, 0, none⟩ = some (.int .i64 a1_0) := (blk_cell BK335.out 0).trans rfl; have hcz22_1 : w21.cell? ⟨gb335, 1, none⟩ = some (.int .i64 a1_1) := (blk_cell BK335.out 1).trans rfl; have hcz22_2 : w21.cell? ⟨gb335, 2, none⟩ = some (.int .i64 a1_2) := (blk_cell BK335.out 2).trans rfl; have hcz22_3 : w21.cell? ⟨gb335, 3, none⟩ = some (.int .i64 a1_3) := (blk_cell BK335.out 3).trans rfl; have hcz22_4 : w21.cell? ⟨gb335, 4, none⟩ = some (.int .i64 a1_4) := (blk_cell BK335.out 4).trans rfl; have hfz22_0 := blk_frozen BK335.out 0; have hfz22_1 := blk_frozen BK335.out 1; have hfz22_2 := blk_frozen BK335.out 2; have hfz22_3 := blk_frozen BK335.out 3; have hfz22_4 := blk_frozen BK335.out 4) | ((with_reducible refine gate_callee (f := 38) rfl ?_); refine goesL_ (some 31) rfl rfl Try.func38 (by kernel_rfl) rfl #[.int .i64 a0, .int .i64 a1_2, .int .i64 (a2.size : Int)] rfl (by (try simp only [List.map_toArray, List.map_cons, List.map_nil]); first | done | rfl | (simp only [List.length_drop, List.length_take]; rfl)) ?_; (with_reducible refine (groatref07_Put.calls kj3 a0 a1_2 (a2.size : Int) t338 t339 _ A17.out).mono ?_); rintro e w23 ⟨rfl, hb⟩; refine ⟨_, rfl, ?_⟩; have n0_ := Aside0.mk (blk_below (g := gb335) (o := .cells #[.int .i64 a1_0, .int .i64 a1_1, .int .i64 a1_2, .int .i64 a1_3, .int .i64 a1_4] 23 (0, 0)) (by (with_reducible repeat (first | refine blk_drewN ?_ _ | refine blk_drew ?_ | refine blk_alloc ?_ _)); exact BK335.out) hb); have n1_ := Aside0.mk (below_step (by repeat (first | (with_reducible first | exact HB.out | apply below_alloc | apply pw_below_drewN | apply below_drew1 | refine below_set ?_ GE335.out) | exact HB.out)) hb); clear BK335; clear HB; have BK335 := n0_; have HB := n1_; clear n0_ n1_; (try clear hb); (try clear hb2); (try clear hk); (try clear hi); have hcz24_0 : w23.cell? ⟨gb335, 0, none⟩ = some (.int .i64 a1_0) := (blk_cell BK335.out 0).trans rfl; have hcz24_1 : w23.cell? ⟨gb335, 1, none⟩ = some (.int .i64 a1_1) := (blk_cell BK335.out 1).trans rfl; have hcz24_2 : w23.cell? ⟨gb335, 2, none⟩ = some (.int .i64 a1_2) := (blk_cell BK335.out 2).trans rfl; have hcz24_3 : w23.cell? ⟨gb335, 3, none⟩ = some (.int .i64 a1_3) := (blk_cell BK335.out 3).trans rfl; have hcz24_4 : w23.cell? ⟨gb335, 4, none⟩ = some (.int .i64 a1_4) := (blk_cell BK335.out 4).trans rfl; have hfz24_0 := blk_frozen BK335.out 0; have hfz24_1 := blk_frozen BK335.out 1; have hfz24_2 := blk_frozen BK335.out 2; have hfz24_3 := blk_frozen BK335.out 3; have hfz24_4 := blk_frozen BK335.out 4) | ((with_reducible refine gate_callee (f := 39) rfl ?_); refine goesL_ (some 39) rfl rfl Try.func39 (by kernel_rfl) rfl #[.int .i64 a0, .int .i64 a1_1, .string a2] rfl (by (try simp only [List.map_toArray, List.map_cons, List.map_nil]); first | done | rfl | (simp only [List.length_drop, List.length_take]; rfl)) ?_; (with_reducible refine (groatref12_content.calls kj3 a0 a1_1 a2 t340 _ A18.out).mono ?_); rintro e w25 ⟨rfl, hb⟩; refine ⟨_, rfl, ?_⟩; have n0_ := Aside0.mk (blk_below (g := gb335) (o := .cells #[.int .i64 a1_0, .int .i64 a1_1, .int .i64 a1_2, .int .i64 a1_3, .int .i64 a1_4] 23 (0, 0)) (by (with_reducible repeat (first | refine blk_drewN ?_ _ | refine blk_drew ?_ | refine blk_alloc ?_ _)); exact BK335.out) hb); have n1_ := Aside0.mk (below_step (by repeat (first | (with_reducible first | exact HB.out | apply below_alloc | apply pw_below_drewN | apply below_drew1 | refine below_set ?_ GE335.out) | exact HB.out)) hb); clear BK335; clear HB; have BK335 := n0_; have HB := n1_; clear n0_ n1_; (try clear hb); (try clear hb2); (try clear hk); (try clear hi)))
       go_ret2
       exact ⟨by first | rfl | (simp [errW_none, errW_some] <;> rfl) | (simp [*, errW_none, errW_some] <;> rfl), by repeat (first | (with_reducible first | exact HB.out | apply below_alloc | apply pw_below_drewN | apply below_drew1 | refine below_set ?_ GE335.out) | exact HB.out)⟩
      ·rw [if_neg c19] at H
       exact absurd H (by simp)
    ·rw [if_neg c9] at H
     have c9b0 : (t336 == 0) = false := beq_eq_false_iff_ne.mpr c9
     have c9b1 : (t336 != 0) = true := bne_iff_ne.mpr c9
     simp only [Option.some.injEq, Prod.mk.injEq] at H
     obtain ⟨rfl, rfl⟩ := H
     have hcz26_0 : wc.cell? ⟨gb335, 0, none⟩ = some (.int .i64 a1_0) := (blk_cell BK335.out 0).trans rfl
     have hcz26_1 : wc.cell? ⟨gb335, 1, none⟩ = some (.int .i64 a1_1) := (blk_cell BK335.out 1).trans rfl
     have hcz26_2 : wc.cell? ⟨gb335, 2, none⟩ = some (.int .i64 a1_2) := (blk_cell BK335.out 2).trans rfl
     have hcz26_3 : wc.cell? ⟨gb335, 3, none⟩ = some (.int .i64 a1_3) := (blk_cell BK335.out 3).trans rfl
     have hcz26_4 : wc.cell? ⟨gb335, 4, none⟩ = some (.int .i64 a1_4) := (blk_cell BK335.out 4).trans rfl
     have hfz26_0 := blk_frozen BK335.out 0
     have hfz26_1 := blk_frozen BK335.out 1
     have hfz26_2 := blk_frozen BK335.out 2
     have hfz26_3 := blk_frozen BK335.out 3
     have hfz26_4 := blk_frozen BK335.out 4
     go_wp2_with (first | ((with_reducible refine gate_callee (f := 17) rfl ?_); refine goesL_ (some 18) rfl rfl Try.func17 (by kernel_rfl) rfl #[.agg #[.int .i64 a1_0, .int .i64 a1_1, .int .i64 a1_2, .int .i64 a1_3, .int .i64 a1_4], .string a2] rfl (by (try simp only [List.map_toArray, List.map_cons, List.map_nil]); first | done | rfl | (simp only [List.length_drop, List.length_take]; rfl)) ?_; (with_reducible refine (groatref11_Value.calls kj3 a1_0 a1_1 a1_2 a1_3 a1_4 a2 t336 _ A8.out).mono ?_); rintro e w27 ⟨rfl, hb⟩; refine ⟨_, rfl, ?_⟩; have n0_ := Aside0.mk (blk_below (g := gb335) (o := .cells #[.int .i64 a1_0, .int .i64 a1_1, .int .i64 a1_2, .int .i64 a1_3, .int .i64 a1_4] 23 (0, 0)) (by (with_reducible repeat (first | refine blk_drewN ?_ _ | refine blk_drew ?_ | refine blk_alloc ?_ _)); exact BK335.out) hb); have n1_ := Aside0.mk (below_step (by repeat (first | (with_reducible first | exact HB.out | apply below_alloc | apply pw_below_drewN | apply below_drew1 | refine below_set ?_ GE335.out) | exact HB.out)) hb); clear BK335; clear HB; have BK335 := n0_; have HB := n1_; clear n0_ n1_; (try clear hb); (try clear hb2); (try clear hk); (try clear hi)))
     go_ret2
     exact ⟨by first | rfl | (simp [errW_none, errW_some] <;> rfl) | (simp [*, errW_none, errW_some] <;> rfl), by repeat (first | (with_reducible first | exact HB.out | apply below_alloc | apply pw_below_drewN | apply below_drew1 | refine below_set ?_ GE335.out) | exact HB.out)⟩
/-! ### groatlaw12_CellPuts: function 8 -/
def groatlaw12_CellPuts.j0 : Nat → Int → ByteArray → Bool → Int → Int → Int → Int → Int → Option (Bool)
 | 0, _, _, _, _, _, _, _, _ => none
 | k + 1, x0, x2, x17, x342000, x342001, x342002, x342003, x342004 => if x17 = true then ((groatlaw12_awake.f k).bind fun t343 => (some t343)) else ((cell_Put.f k x0 x342000 x342001 x342002 x342003 x342004 x2).bind fun bt344 => ((groatref12_Put.f k x0 x342000 x342001 x342002 x342003 x342004 x2).bind fun bt346 => (if bt344.1.toList = bt346.1.toList then (some (bt344.2 == bt346.2)) else (some false))))
def groatlaw12_CellPuts.f (k : Nat) (a0 : Int) (a1_0 : Int) (a1_1 : Int) (a1_2 : Int) (a1_3 : Int) (a1_4 : Int) (a2 : ByteArray) : Option (Bool) := (groatlaw12_awake.f k).bind fun t342 => (if t342 = true then (groatlaw12_CellPuts.j0 k a0 a2 (decide ((a2.size : Int) > 2000)) a1_0 a1_1 a1_2 a1_3 a1_4) else (groatlaw12_CellPuts.j0 k a0 a2 true a1_0 a1_1 a1_2 a1_3 a1_4))
theorem groatlaw12_CellPuts.mono_l : ∀ k, (∀ y0 y1 y2 y3 y4 y5 y6 y7, LeO (groatlaw12_CellPuts.j0 k y0 y1 y2 y3 y4 y5 y6 y7) (groatlaw12_CellPuts.j0 (k + 1) y0 y1 y2 y3 y4 y5 y6 y7))
 | 0 => fun _ _ _ _ _ _ _ _ r h => by simp [groatlaw12_CellPuts.j0] at h
 | k + 1 => by
  have ih0 := groatlaw12_CellPuts.mono_l k
  ·intro y0 y1 y2 y3 y4 y5 y6 y7
   unfold groatlaw12_CellPuts.j0
   repeat' first
   | (with_reducible exact ih0 _ _ _ _ _ _ _ _)
   | (with_reducible exact cell_Put.mono _ _ _ _ _ _ _ _)
   | (with_reducible exact groatlaw12_awake.mono _)
   | (with_reducible exact groatref12_Put.mono _ _ _ _ _ _ _ _)
   | (with_reducible exact LeO.refl _)
   | (with_reducible exact LeO.none _)
   | (with_reducible refine LeO.ite ?_ ?_)
   | (with_reducible refine LeO.bind ?_ (fun _ => ?_))
   | exact ih0 _ _ _ _ _ _ _ _
   | exact cell_Put.mono _ _ _ _ _ _ _ _
   | exact groatlaw12_awake.mono _
   | exact groatref12_Put.mono _ _ _ _ _ _ _ _
   | exact LeO.none _
   | refine LeO.ite ?_ ?_
   | refine LeO.bind ?_ (fun _ => ?_)
theorem groatlaw12_CellPuts.mono : ∀ a0 a1 a2 a3 a4 a5 a6 k, LeO (groatlaw12_CellPuts.f k a0 a1 a2 a3 a4 a5 a6) (groatlaw12_CellPuts.f (k + 1) a0 a1 a2 a3 a4 a5 a6) := by
 intro a0 a1 a2 a3 a4 a5 a6 k
 have ih0 := groatlaw12_CellPuts.mono_l k
 unfold groatlaw12_CellPuts.f
 repeat' first
   | (with_reducible exact ih0 _ _ _ _ _ _ _ _)
   | (with_reducible exact cell_Put.mono _ _ _ _ _ _ _ _)
   | (with_reducible exact groatlaw12_awake.mono _)
   | (with_reducible exact groatref12_Put.mono _ _ _ _ _ _ _ _)
   | (with_reducible exact LeO.refl _)
   | (with_reducible exact LeO.none _)
   | (with_reducible refine LeO.ite ?_ ?_)
   | (with_reducible refine LeO.bind ?_ (fun _ => ?_))
   | exact ih0 _ _ _ _ _ _ _ _
   | exact cell_Put.mono _ _ _ _ _ _ _ _
   | exact groatlaw12_awake.mono _
   | exact groatref12_Put.mono _ _ _ _ _ _ _ _
   | exact LeO.none _
   | refine LeO.ite ?_ ?_
   | refine LeO.bind ?_ (fun _ => ?_)
set_option maxHeartbeats 8000000 in
set_option maxRecDepth 100000 in
theorem groatlaw12_CellPuts.calls (k : Nat) (a0 : Int) (a1_0 : Int) (a1_1 : Int) (a1_2 : Int) (a1_3 : Int) (a1_4 : Int) (a2 : ByteArray) (r : Bool) (w : World) (h : groatlaw12_CellPuts.f k a0 a1_0 a1_1 a1_2 a1_3 a1_4 a2 = some r) :
  Calls Try.prog 8 #[.int .i64 a0, .agg #[.int .i64 a1_0, .int .i64 a1_1, .int .i64 a1_2, .int .i64 a1_3, .int .i64 a1_4], .string a2] w fun e w' => e = .returned (.bool r) ∧ Below w.heap.size w w' := by
 have hu23 := Try.underlying23
 have HB := Aside0.mk (Below.refl w.heap.size w)
 have H : ((groatlaw12_awake.f k).bind fun t342 => (if t342 = true then (groatlaw12_CellPuts.j0 k a0 a2 (decide ((a2.size : Int) > 2000)) a1_0 a1_1 a1_2 a1_3 a1_4) else (groatlaw12_CellPuts.j0 k a0 a2 true a1_0 a1_1 a1_2 a1_3 a1_4))) = some r := h
 clear h
 have HC4 := Aside0.mk H
 clear H
 go_enter Try.func8, Try.ntmps8
 go_upto_region 1 with (first | ((with_reducible refine gate_dst (N := 4) rfl ?_); refine box_event ?hg (N := 4) ?hd (cs := #[.int .i64 a1_0, .int .i64 a1_1, .int .i64 a1_2, .int .i64 a1_3, .int .i64 a1_4]) (t := 23) ?hr ?_; (case hd => rfl); (case hg => rfl); (case hr => first | (go_simp; done) | (go_simp; rfl) | (have hu8_ := IntKind.wrap_u8; go_simp; done) | (have hu8_ := IntKind.wrap_u8; go_simp; rfl) | (go_simp; simp [IntKind.wrap_u8]; done)); intro gb341 hg w5 hbox hb; have n0_ := Aside0.mk (below_step (by repeat (first | (with_reducible first | exact HB.out | apply below_alloc | apply pw_below_drewN | apply below_drew1) | exact HB.out)) hb); have n1_ := Aside0.mk (hbox); have n2_ := Aside0.mk ((by rw [hg]; exact (below_size (by repeat (first | (with_reducible first | exact HB.out | apply below_alloc | apply pw_below_drewN | apply below_drew1) | exact HB.out))) : w.heap.size ≤ gb341)); have n3_ := Aside0.mk ((by rw [hg]; exact (below_size (by repeat (first | (with_reducible first | exact HB.out | apply below_alloc | apply pw_below_drewN | apply below_drew1) | exact HB.out))) : w.heap.size ≤ gb341)); clear HB; have HB := n0_; have BK341 := n1_; have GW341 := n2_; have GE341 := n3_; clear n0_ n1_ n2_ n3_; clear hb hbox hg))
 (try simp only [Act.put, List.setIfInBounds_toArray, List.set_cons_zero, List.set_cons_succ])
 go_cut [17] (fun v17 wc => ∃ (kq : Nat) (x17_3 : Bool), v17 = .bool x17_3 ∧ Aside0 (groatlaw12_CellPuts.j0 kq a0 a2 x17_3 a1_0 a1_1 a1_2 a1_3 a1_4 = some r) ∧ Aside0 (kq ≤ k) ∧ Aside0 (wc.heap[gb341]? = some (.cells #[.int .i64 a1_0, .int .i64 a1_1, .int .i64 a1_2, .int .i64 a1_3, .int .i64 a1_4] 23 (0, 0))) ∧ Aside0 (Below w.heap.size w wc))
 case first =>
  have H := HC4.out
  clear HC4
  replace H := Option.bind_eq_some_iff.mp H
  obtain ⟨t342, A60, H⟩ := H
  replace H : (if t342 = true then (groatlaw12_CellPuts.j0 k a0 a2 (decide ((a2.size : Int) > 2000)) a1_0 a1_1 a1_2 a1_3 a1_4) else (groatlaw12_CellPuts.j0 k a0 a2 true a1_0 a1_1 a1_2 a1_3 a1_4)) = some r := H
  have A6 := Aside0.mk A60
  clear A60
  by_cases c7 : t342 = true
  ·subst c7
   have H1 : (groatlaw12_CellPuts.j0 k a0 a2 (decide ((a2.size : Int) > 2000)) a1_0 a1_1 a1_2 a1_3 a1_4) = some r := by rw [if_pos rfl] at H; exact H
   clear H
   have H := H1
   clear H1
   have H' := Aside0.mk H
   clear H
   go_wp2_with (first | ((with_reducible refine gate_callee (f := 20) rfl ?_); refine goesL_ (some 11) rfl rfl Try.func20 (by kernel_rfl) rfl #[] rfl (by (try simp only [List.map_toArray, List.map_cons, List.map_nil]); first | done | rfl | (simp only [List.length_drop, List.length_take]; rfl)) ?_; (with_reducible refine (groatlaw12_awake.calls k  true _ A6.out).mono ?_); rintro e w8 ⟨rfl, hb⟩; refine ⟨_, rfl, ?_⟩; have n0_ := Aside0.mk (blk_below (g := gb341) (o := .cells #[.int .i64 a1_0, .int .i64 a1_1, .int .i64 a1_2, .int .i64 a1_3, .int .i64 a1_4] 23 (0, 0)) (by (with_reducible repeat (first | refine blk_drewN ?_ _ | refine blk_drew ?_ | refine blk_alloc ?_ _)); exact BK341.out) hb); have n1_ := Aside0.mk (below_step (by repeat (first | (with_reducible first | exact HB.out | apply below_alloc | apply pw_below_drewN | apply below_drew1 | refine below_set ?_ GE341.out) | exact HB.out)) hb); clear BK341; clear HB; have BK341 := n0_; have HB := n1_; clear n0_ n1_; (try clear hb); (try clear hb2); (try clear hk); (try clear hi)))
   go_meet
   case rel => exact ⟨_, (decide ((a2.size : Int) > 2000)), (by first | rfl | (simp; done) | (simp [*]; done) | (simp [wrap64]; done)), H', ⟨by first | omega | exact Nat.le_refl _⟩, ⟨by (with_reducible repeat (first | refine blk_drewN ?_ _ | refine blk_drew ?_ | refine blk_alloc ?_ _)); exact BK341.out⟩, ⟨by repeat (first | (with_reducible first | exact HB.out | apply below_alloc | apply pw_below_drewN | apply below_drew1 | refine below_set ?_ GE341.out) | exact HB.out)⟩⟩
  ·replace c7 := Bool.eq_false_iff.mpr c7
   subst c7
   have H1 : (groatlaw12_CellPuts.j0 k a0 a2 true a1_0 a1_1 a1_2 a1_3 a1_4) = some r := by rw [if_neg (show ¬ (false = true) by decide)] at H; exact H
   clear H
   have H := H1
   clear H1
   have H' := Aside0.mk H
   clear H
   go_wp2_with (first | ((with_reducible refine gate_callee (f := 20) rfl ?_); refine goesL_ (some 11) rfl rfl Try.func20 (by kernel_rfl) rfl #[] rfl (by (try simp only [List.map_toArray, List.map_cons, List.map_nil]); first | done | rfl | (simp only [List.length_drop, List.length_take]; rfl)) ?_; (with_reducible refine (groatlaw12_awake.calls k  false _ A6.out).mono ?_); rintro e w9 ⟨rfl, hb⟩; refine ⟨_, rfl, ?_⟩; have n0_ := Aside0.mk (blk_below (g := gb341) (o := .cells #[.int .i64 a1_0, .int .i64 a1_1, .int .i64 a1_2, .int .i64 a1_3, .int .i64 a1_4] 23 (0, 0)) (by (with_reducible repeat (first | refine blk_drewN ?_ _ | refine blk_drew ?_ | refine blk_alloc ?_ _)); exact BK341.out) hb); have n1_ := Aside0.mk (below_step (by repeat (first | (with_reducible first | exact HB.out | apply below_alloc | apply pw_below_drewN | apply below_drew1 | refine below_set ?_ GE341.out) | exact HB.out)) hb); clear BK341; clear HB; have BK341 := n0_; have HB := n1_; clear n0_ n1_; (try clear hb); (try clear hb2); (try clear hk); (try clear hi)))
   go_meet
   case rel => exact ⟨_, (true), (by first | rfl | (simp; done) | (simp [*]; done) | (simp [wrap64]; done)), H', ⟨by first | omega | exact Nat.le_refl _⟩, ⟨by (with_reducible repeat (first | refine blk_drewN ?_ _ | refine blk_drew ?_ | refine blk_alloc ?_ _)); exact BK341.out⟩, ⟨by repeat (first | (with_reducible first | exact HB.out | apply below_alloc | apply pw_below_drewN | apply below_drew1 | refine below_set ?_ GE341.out) | exact HB.out)⟩⟩
 case rest =>
  clear HC4
  try clear c2
  try clear p2
  try clear p6
  try clear c7
  try clear c8
  obtain ⟨kq, x17_3, rfl, HA, HJ3, BK341, HB⟩ := hcut
  cases kq with
  | zero => exact absurd HA.out (by simp [groatlaw12_CellPuts.j0])
  | succ kj3 =>
   have H := HA.out
   clear HA
   simp only [groatlaw12_CellPuts.j0] at H
   by_cases c10 : x17_3 = true
   ·subst c10
    have H1 : ((groatlaw12_awake.f kj3).bind fun t343 => (some t343)) = some r := by rw [if_pos rfl] at H; exact H
    clear H
    have H := H1
    clear H1
    replace H := Option.bind_eq_some_iff.mp H
    obtain ⟨t343, A110, H⟩ := H
    replace H : (some t343) = some r := H
    have A11 := Aside0.mk A110
    clear A110
    obtain rfl := Option.some.inj H
    go_wp2_with (first | ((with_reducible refine gate_callee (f := 20) rfl ?_); refine goesL_ (some 18) rfl rfl Try.func20 (by kernel_rfl) rfl #[] rfl (by (try simp only [List.map_toArray, List.map_cons, List.map_nil]); first | done | rfl | (simp only [List.length_drop, List.length_take]; rfl)) ?_; (with_reducible refine (groatlaw12_awake.calls kj3  t343 _ A11.out).mono ?_); rintro e w12 ⟨rfl, hb⟩; refine ⟨_, rfl, ?_⟩; have n0_ := Aside0.mk (blk_below (g := gb341) (o := .cells #[.int .i64 a1_0, .int .i64 a1_1, .int .i64 a1_2, .int .i64 a1_3, .int .i64 a1_4] 23 (0, 0)) (by (with_reducible repeat (first | refine blk_drewN ?_ _ | refine blk_drew ?_ | refine blk_alloc ?_ _)); exact BK341.out) hb); have n1_ := Aside0.mk (below_step (by repeat (first | (with_reducible first | exact HB.out | apply below_alloc | apply pw_below_drewN | apply below_drew1 | refine below_set ?_ GE341.out) | exact HB.out)) hb); clear BK341; clear HB; have BK341 := n0_; have HB := n1_; clear n0_ n1_; (try clear hb); (try clear hb2); (try clear hk); (try clear hi)))
    go_ret
    exact ⟨by first | rfl | (simp [errW_none, errW_some] <;> rfl) | (simp [*, errW_none, errW_some] <;> rfl), by repeat (first | (with_reducible first | exact HB.out | apply below_alloc | apply pw_below_drewN | apply below_drew1 | refine below_set ?_ GE341.out) | exact HB.out)⟩
   ·replace c10 := Bool.eq_false_iff.mpr c10
    subst c10
    have H1 : ((cell_Put.f kj3 a0 a1_0 a1_1 a1_2 a1_3 a1_4 a2).bind fun bt344 => ((groatref12_Put.f kj3 a0 a1_0 a1_1 a1_2 a1_3 a1_4 a2).bind fun bt346 => (if bt344.1.toList = bt346.1.toList then (some (bt344.2 == bt346.2)) else (some false)))) = some r := by rw [if_neg (show ¬ (false = true) by decide)] at H; exact H
    clear H
    have H := H1
    clear H1
    replace H := Option.bind_eq_some_iff.mp H
    obtain ⟨⟨t344, t345⟩, A130, H⟩ := H
    replace H : ((groatref12_Put.f kj3 a0 a1_0 a1_1 a1_2 a1_3 a1_4 a2).bind fun bt346 => (if t344.toList = bt346.1.toList then (some (t345 == bt346.2)) else (some false))) = some r := H
    have A13 := Aside0.mk A130
    clear A130
    replace H := Option.bind_eq_some_iff.mp H
    obtain ⟨⟨t346, t347⟩, A140, H⟩ := H
    replace H : (if t344.toList = t346.toList then (some (t345 == t347)) else (some false)) = some r := H
    have A14 := Aside0.mk A140
    clear A140
    by_cases c15 : t344.toList = t346.toList
    ·rw [if_pos c15] at H
     have c15b0 : (t344.toList == t346.toList) = true := beq_iff_eq.mpr c15
     have c15b1 : (t344.toList != t346.toList) = false := bne_eq_false_iff_eq.mpr c15
     clear c15
     obtain rfl := Option.some.inj H
     have hcz16_0 : wc.cell? ⟨gb341, 0, none⟩ = some (.int .i64 a1_0) := (blk_cell BK341.out 0).trans rfl
     have hcz16_1 : wc.cell? ⟨gb341, 1, none⟩ = some (.int .i64 a1_1) := (blk_cell BK341.out 1).trans rfl
     have hcz16_2 : wc.cell? ⟨gb341, 2, none⟩ = some (.int .i64 a1_2) := (blk_cell BK341.out 2).trans rfl
     have hcz16_3 : wc.cell? ⟨gb341, 3, none⟩ = some (.int .i64 a1_3) := (blk_cell BK341.out 3).trans rfl
     have hcz16_4 : wc.cell? ⟨gb341, 4, none⟩ = some (.int .i64 a1_4) := (blk_cell BK341.out 4).trans rfl
     have hfz16_0 := blk_frozen BK341.out 0
     have hfz16_1 := blk_frozen BK341.out 1
     have hfz16_2 := blk_frozen BK341.out 2
     have hfz16_3 := blk_frozen BK341.out 3
     have hfz16_4 := blk_frozen BK341.out 4
     go_wp2_with (first | ((with_reducible refine gate_callee (f := 21) rfl ?_); refine goesL_ (some 23) rfl rfl Try.func21 (by kernel_rfl) rfl #[.int .i64 a0, .agg #[.int .i64 a1_0, .int .i64 a1_1, .int .i64 a1_2, .int .i64 a1_3, .int .i64 a1_4], .string a2] rfl (by (try simp only [List.map_toArray, List.map_cons, List.map_nil]); first | done | rfl | (simp only [List.length_drop, List.length_take]; rfl)) ?_; (with_reducible refine (cell_Put.calls kj3 a0 a1_0 a1_1 a1_2 a1_3 a1_4 a2 t344 t345 _ A13.out).mono ?_); rintro e w17 ⟨rfl, hb⟩; refine ⟨_, rfl, ?_⟩; have n0_ := Aside0.mk (blk_below (g := gb341) (o := .cells #[.int .i64 a1_0, .int .i64 a1_1, .int .i64 a1_2, .int .i64 a1_3, .int .i64 a1_4] 23 (0, 0)) (by (with_reducible repeat (first | refine blk_drewN ?_ _ | refine blk_drew ?_ | refine blk_alloc ?_ _)); exact BK341.out) hb); have n1_ := Aside0.mk (below_step (by repeat (first | (with_reducible first | exact HB.out | apply below_alloc | apply pw_below_drewN | apply below_drew1 | refine below_set ?_ GE341.out) | exact HB.out)) hb); clear BK341; clear HB; have BK341 := n0_; have HB := n1_; clear n0_ n1_; (try clear hb); (try clear hb2); (try clear hk); (try clear hi); have hcz18_0 : w17.cell? ⟨gb341, 0, none⟩ = some (.int .i64 a1_0) := (blk_cell BK341.out 0).trans rfl; have hcz18_1 : w17.cell? ⟨gb341, 1, none⟩ = some (.int .i64 a1_1) := (blk_cell BK341.out 1).trans rfl; have hcz18_2 : w17.cell? ⟨gb341, 2, none⟩ = some (.int .i64 a1_2) := (blk_cell BK341.out 2).trans rfl; have hcz18_3 : w17.cell? ⟨gb341, 3, none⟩ = some (.int .i64 a1_3) := (blk_cell BK341.out 3).trans rfl; have hcz18_4 : w17.cell? ⟨gb341, 4, none⟩ = some (.int .i64 a1_4) := (blk_cell BK341.out 4).trans rfl; have hfz18_0 := blk_frozen BK341.out 0; have hfz18_1 := blk_frozen BK341.out 1; have hfz18_2 := blk_frozen BK341.out 2; have hfz18_3 := blk_frozen BK341.out 3; have hfz18_4 := blk_frozen BK341.out 4) | ((with_reducible refine gate_callee (f := 22) rfl ?_); refine goesL_ (some 30) rfl rfl Try.func22 (by kernel_rfl) rfl #[.int .i64 a0, .agg #[.int .i64 a1_0, .int .i64 a1_1, .int .i64 a1_2, .int .i64 a1_3, .int .i64 a1_4], .string a2] rfl (by (try simp only [List.map_toArray, List.map_cons, List.map_nil]); first | done | rfl | (simp only [List.length_drop, List.length_take]; rfl)) ?_; (with_reducible refine (groatref12_Put.calls kj3 a0 a1_0 a1_1 a1_2 a1_3 a1_4 a2 t346 t347 _ A14.out).mono ?_); rintro e w19 ⟨rfl, hb⟩; refine ⟨_, rfl, ?_⟩; have n0_ := Aside0.mk (blk_below (g := gb341) (o := .cells #[.int .i64 a1_0, .int .i64 a1_1, .int .i64 a1_2, .int .i64 a1_3, .int .i64 a1_4] 23 (0, 0)) (by (with_reducible repeat (first | refine blk_drewN ?_ _ | refine blk_drew ?_ | refine blk_alloc ?_ _)); exact BK341.out) hb); have n1_ := Aside0.mk (below_step (by repeat (first | (with_reducible first | exact HB.out | apply below_alloc | apply pw_below_drewN | apply below_drew1 | refine below_set ?_ GE341.out) | exact HB.out)) hb); clear BK341; clear HB; have BK341 := n0_; have HB := n1_; clear n0_ n1_; (try clear hb); (try clear hb2); (try clear hk); (try clear hi)))
     go_ret
     exact ⟨by first | rfl | (simp [errW_none, errW_some] <;> rfl) | (simp [*, errW_none, errW_some] <;> rfl), by repeat (first | (with_reducible first | exact HB.out | apply below_alloc | apply pw_below_drewN | apply below_drew1 | refine below_set ?_ GE341.out) | exact HB.out)⟩
    ·rw [if_neg c15] at H
     have c15b0 : (t344.toList == t346.toList) = false := beq_eq_false_iff_ne.mpr c15
     have c15b1 : (t344.toList != t346.toList) = true := bne_iff_ne.mpr c15
     obtain rfl := Option.some.inj H
     have hcz20_0 : wc.cell? ⟨gb341, 0, none⟩ = some (.int .i64 a1_0) := (blk_cell BK341.out 0).trans rfl
     have hcz20_1 : wc.cell? ⟨gb341, 1, none⟩ = some (.int .i64 a1_1) := (blk_cell BK341.out 1).trans rfl
     have hcz20_2 : wc.cell? ⟨gb341, 2, none⟩ = some (.int .i64 a1_2) := (blk_cell BK341.out 2).trans rfl
     have hcz20_3 : wc.cell? ⟨gb341, 3, none⟩ = some (.int .i64 a1_3) := (blk_cell BK341.out 3).trans rfl
     have hcz20_4 : wc.cell? ⟨gb341, 4, none⟩ = some (.int .i64 a1_4) := (blk_cell BK341.out 4).trans rfl
     have hfz20_0 := blk_frozen BK341.out 0
     have hfz20_1 := blk_frozen BK341.out 1
     have hfz20_2 := blk_frozen BK341.out 2
     have hfz20_3 := blk_frozen BK341.out 3
     have hfz20_4 := blk_frozen BK341.out 4
     go_wp2_with (first | ((with_reducible refine gate_callee (f := 21) rfl ?_); refine goesL_ (some 23) rfl rfl Try.func21 (by kernel_rfl) rfl #[.int .i64 a0, .agg #[.int .i64 a1_0, .int .i64 a1_1, .int .i64 a1_2, .int .i64 a1_3, .int .i64 a1_4], .string a2] rfl (by (try simp only [List.map_toArray, List.map_cons, List.map_nil]); first | done | rfl | (simp only [List.length_drop, List.length_take]; rfl)) ?_; (with_reducible refine (cell_Put.calls kj3 a0 a1_0 a1_1 a1_2 a1_3 a1_4 a2 t344 t345 _ A13.out).mono ?_); rintro e w21 ⟨rfl, hb⟩; refine ⟨_, rfl, ?_⟩; have n0_ := Aside0.mk (blk_below (g := gb341) (o := .cells #[.int .i64 a1_0, .int .i64 a1_1, .int .i64 a1_2, .int .i64 a1_3, .int .i64 a1_4] 23 (0, 0)) (by (with_reducible repeat (first | refine blk_drewN ?_ _ | refine blk_drew ?_ | refine blk_alloc ?_ _)); exact BK341.out) hb); have n1_ := Aside0.mk (below_step (by repeat (first | (with_reducible first | exact HB.out | apply below_alloc | apply pw_below_drewN | apply below_drew1 | refine below_set ?_ GE341.out) | exact HB.out)) hb); clear BK341; clear HB; have BK341 := n0_; have HB := n1_; clear n0_ n1_; (try clear hb); (try clear hb2); (try clear hk); (try clear hi); have hcz22_0 : w21.cell? ⟨gb341, 0, none⟩ = some (.int .i64 a1_0) := (blk_cell BK341.out 0).trans rfl; have hcz22_1 : w21.cell? ⟨gb341, 1, none⟩ = some (.int .i64 a1_1) := (blk_cell BK341.out 1).trans rfl; have hcz22_2 : w21.cell? ⟨gb341, 2, none⟩ = some (.int .i64 a1_2) := (blk_cell BK341.out 2).trans rfl; have hcz22_3 : w21.cell? ⟨gb341, 3, none⟩ = some (.int .i64 a1_3) := (blk_cell BK341.out 3).trans rfl; have hcz22_4 : w21.cell? ⟨gb341, 4, none⟩ = some (.int .i64 a1_4) := (blk_cell BK341.out 4).trans rfl; have hfz22_0 := blk_frozen BK341.out 0; have hfz22_1 := blk_frozen BK341.out 1; have hfz22_2 := blk_frozen BK341.out 2; have hfz22_3 := blk_frozen BK341.out 3; have hfz22_4 := blk_frozen BK341.out 4) | ((with_reducible refine gate_callee (f := 22) rfl ?_); refine goesL_ (some 30) rfl rfl Try.func22 (by kernel_rfl) rfl #[.int .i64 a0, .agg #[.int .i64 a1_0, .int .i64 a1_1, .int .i64 a1_2, .int .i64 a1_3, .int .i64 a1_4], .string a2] rfl (by (try simp only [List.map_toArray, List.map_cons, List.map_nil]); first | done | rfl | (simp only [List.length_drop, List.length_take]; rfl)) ?_; (with_reducible refine (groatref12_Put.calls kj3 a0 a1_0 a1_1 a1_2 a1_3 a1_4 a2 t346 t347 _ A14.out).mono ?_); rintro e w23 ⟨rfl, hb⟩; refine ⟨_, rfl, ?_⟩; have n0_ := Aside0.mk (blk_below (g := gb341) (o := .cells #[.int .i64 a1_0, .int .i64 a1_1, .int .i64 a1_2, .int .i64 a1_3, .int .i64 a1_4] 23 (0, 0)) (by (with_reducible repeat (first | refine blk_drewN ?_ _ | refine blk_drew ?_ | refine blk_alloc ?_ _)); exact BK341.out) hb); have n1_ := Aside0.mk (below_step (by repeat (first | (with_reducible first | exact HB.out | apply below_alloc | apply pw_below_drewN | apply below_drew1 | refine below_set ?_ GE341.out) | exact HB.out)) hb); clear BK341; clear HB; have BK341 := n0_; have HB := n1_; clear n0_ n1_; (try clear hb); (try clear hb2); (try clear hk); (try clear hi)))
     go_ret
     exact ⟨by first | rfl | (simp [errW_none, errW_some] <;> rfl) | (simp [*, errW_none, errW_some] <;> rfl), by repeat (first | (with_reducible first | exact HB.out | apply below_alloc | apply pw_below_drewN | apply below_drew1 | refine below_set ?_ GE341.out) | exact HB.out)⟩

/-- THE ONE PURE STATEMENT of groatlaw12_CellPuts. -/
def groatlaw12_CellPuts.Pure : Prop := ∀ (x0 : Int) (x1 : S23) (x2 : ByteArray), (Lit.int .i64 x0).wf = true → Q23 x1 → x2.size ≤ 140737488351232 → ∃ k, groatlaw12_CellPuts.f k x0 x1.f0 x1.f1 x1.f2 x1.f3 x1.f4 x2 = some true

end Go.Proofs.Ytfaeodcapagjbaa.P
