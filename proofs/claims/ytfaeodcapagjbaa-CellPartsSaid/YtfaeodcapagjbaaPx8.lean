-- written for this claim by wip/pp.py
import Derived.Test.YtfaeodcapagjbaaPx0
import Derived.Test.YtfaeodcapagjbaaPx1
import Derived.Test.YtfaeodcapagjbaaPx2
import Derived.Test.YtfaeodcapagjbaaPx5
import Derived.Test.YtfaeodcapagjbaaPx6
import Derived.Test.YtfaeodcapagjbaaPx7
namespace Go.Proofs.Ytfaeodcapagjbaa.P
open Go.RowKit Go.Proofs.YtfaeodcapagjbaaW.PrintWords Go.Proofs.YtfaeodcapagjbaaW.PrintLast Go.Proofs.YtfaeodcapagjbaaW.PrintMore
attribute [local go_sem] max2_int min2_int max_two min_two max_three min_three max_four min_four   -- for this text's walks alone
set_option linter.unusedVariables false
set_option linter.unusedSimpArgs false

/-! ### cell_Get: function 23 -/
mutual
def cell_Get.j0 : Nat → Int → ByteArray → Int → Bool → Int → Int → Int → Int → Int → Option (ByteArray × Int × Int)
 | 0, _, _, _, _, _, _, _, _, _ => none
 | k + 1, x0, x2, x3, x39, x268000, x268001, x268002, x268003, x268004 => if x39 = true then (some ((⟨#[]⟩ : ByteArray), 0, 1)) else (if x268002 = 1 then (cell_Get.j1 k x0 x2 x3 x268003 x268000 x268001 x268002 x268003 x268004) else ((prefix_Get.f k x0 x268002 x2 x3).bind fun bt270 => (if bt270.2.2 = 0 then (if bt270.1 < x268003 then (some ((⟨#[]⟩ : ByteArray), 0, 5)) else (if bt270.1 > x268004 then (some ((⟨#[]⟩ : ByteArray), 0, 5)) else (cell_Get.j1 k x0 x2 bt270.2.1 bt270.1 x268000 x268001 x268002 x268003 x268004))) else (some ((⟨#[]⟩ : ByteArray), 0, bt270.2.2)))))
def cell_Get.j1 : Nat → Int → ByteArray → Int → Int → Int → Int → Int → Int → Int → Option (ByteArray × Int × Int)
 | 0, _, _, _, _, _, _, _, _, _ => none
 | k + 1, x0, x2, x3, x11, x268000, x268001, x268002, x268003, x268004 => (cell_how.f k x0 x268001).bind fun t273 => (if t273 = 1 then ((bcd_Size.f x11).bind fun t274 => (cell_Get.j2 k x0 x2 x3 x11 t274 x268000 x268001 x268002 x268003 x268004)) else (if t273 = 2 then (cell_Get.j2 k x0 x2 x3 x11 (wrap64 (2 * x11)) x268000 x268001 x268002 x268003 x268004) else (cell_Get.j2 k x0 x2 x3 x11 x11 x268000 x268001 x268002 x268003 x268004)))
def cell_Get.j2 : Nat → Int → ByteArray → Int → Int → Int → Int → Int → Int → Int → Int → Option (ByteArray × Int × Int)
 | 0, _, _, _, _, _, _, _, _, _, _ => none
 | k + 1, x0, x2, x3, x11, x13, x268000, x268001, x268002, x268003, x268004 => if (wrap64 ((x2.size : Int) - x3)) < x13 then (some ((⟨#[]⟩ : ByteArray), 0, 2)) else (if 0 ≤ x3 then (if x3 ≤ (wrap64 (x3 + x13)) then (if (wrap64 (x3 + x13)) ≤ (x2.size : Int) then ((cell_how.f k x0 x268001).bind fun t275 => (if t275 = 1 then ((bcd_Get.f k (x2.extract (x3 : Int).toNat ((wrap64 (x3 + x13)) : Int).toNat) x11).bind fun bt276 => (if bt276.2.1 = 0 then ((spec_Value.f k x268000 x268001 x268002 x268003 x268004 bt276.1).bind fun t279 => (if t279 = 0 then (some (bt276.1, wrap64 (x3 + x13), 0)) else (some ((⟨#[]⟩ : ByteArray), 0, t279)))) else (some ((⟨#[]⟩ : ByteArray), 0, bt276.2.1)))) else (if t275 = 2 then ((hexa_Get.f k (x2.extract (x3 : Int).toNat ((wrap64 (x3 + x13)) : Int).toNat)).bind fun bt280 => (if bt280.2.2 = true then ((spec_Value.f k x268000 x268001 x268002 x268003 x268004 bt280.1).bind fun t283 => (if t283 = 0 then (some (bt280.1, wrap64 (x3 + x13), 0)) else (some ((⟨#[]⟩ : ByteArray), 0, t283)))) else (some ((⟨#[]⟩ : ByteArray), 0, 3)))) else ((spec_Value.f k x268000 x268001 x268002 x268003 x268004 (x2.extract (x3 : Int).toNat ((wrap64 (x3 + x13)) : Int).toNat)).bind fun t284 => (if t284 = 0 then (some (x2.extract (x3 : Int).toNat ((wrap64 (x3 + x13)) : Int).toNat, wrap64 (x3 + x13), 0)) else (some ((⟨#[]⟩ : ByteArray), 0, t284))))))) else (none)) else (none)) else (none))
end
def cell_Get.f (k : Nat) (a0 : Int) (a1_0 : Int) (a1_1 : Int) (a1_2 : Int) (a1_3 : Int) (a1_4 : Int) (a2 : ByteArray) (a3 : Int) : Option (ByteArray × Int × Int) := (cell_known.f a0).bind fun t268 => (if t268 = true then ((spec_Check.f k a1_0 a1_1 a1_2 a1_3 a1_4).bind fun t269 => (if t269 = 0 then (if a3 < 0 then (cell_Get.j0 k a0 a2 a3 true a1_0 a1_1 a1_2 a1_3 a1_4) else (cell_Get.j0 k a0 a2 a3 (decide (a3 > (a2.size : Int))) a1_0 a1_1 a1_2 a1_3 a1_4)) else (cell_Get.j0 k a0 a2 a3 true a1_0 a1_1 a1_2 a1_3 a1_4))) else (cell_Get.j0 k a0 a2 a3 true a1_0 a1_1 a1_2 a1_3 a1_4))
theorem cell_Get.mono_l : ∀ k, (∀ y0 y1 y2 y3 y4 y5 y6 y7 y8, LeO (cell_Get.j0 k y0 y1 y2 y3 y4 y5 y6 y7 y8) (cell_Get.j0 (k + 1) y0 y1 y2 y3 y4 y5 y6 y7 y8)) ∧ (∀ y0 y1 y2 y3 y4 y5 y6 y7 y8, LeO (cell_Get.j1 k y0 y1 y2 y3 y4 y5 y6 y7 y8) (cell_Get.j1 (k + 1) y0 y1 y2 y3 y4 y5 y6 y7 y8)) ∧ (∀ y0 y1 y2 y3 y4 y5 y6 y7 y8 y9, LeO (cell_Get.j2 k y0 y1 y2 y3 y4 y5 y6 y7 y8 y9) (cell_Get.j2 (k + 1) y0 y1 y2 y3 y4 y5 y6 y7 y8 y9))
 | 0 => ⟨fun _ _ _ _ _ _ _ _ _ r h => by simp [cell_Get.j0] at h, fun _ _ _ _ _ _ _ _ _ r h => by simp [cell_Get.j1] at h, fun _ _ _ _ _ _ _ _ _ _ r h => by simp [cell_Get.j2] at h⟩
 | k + 1 => by
  obtain ⟨ih0, ih1, ih2⟩ := cell_Get.mono_l k
  refine ⟨?_, ?_, ?_⟩
  ·intro y0 y1 y2 y3 y4 y5 y6 y7 y8
   unfold cell_Get.j0
   repeat' first
   | (with_reducible exact ih0 _ _ _ _ _ _ _ _ _)
   | (with_reducible exact ih1 _ _ _ _ _ _ _ _ _)
   | (with_reducible exact ih2 _ _ _ _ _ _ _ _ _ _)
   | (with_reducible exact bcd_Get.mono _ _ _)
   | (with_reducible exact cell_how.mono _ _ _)
   | (with_reducible exact hexa_Get.mono _ _)
   | (with_reducible exact prefix_Get.mono _ _ _ _ _)
   | (with_reducible exact spec_Check.mono _ _ _ _ _ _)
   | (with_reducible exact spec_Value.mono _ _ _ _ _ _ _)
   | (with_reducible exact LeO.refl _)
   | (with_reducible exact LeO.none _)
   | (with_reducible refine LeO.ite ?_ ?_)
   | (with_reducible refine LeO.bind ?_ (fun _ => ?_))
   | exact ih0 _ _ _ _ _ _ _ _ _
   | exact ih1 _ _ _ _ _ _ _ _ _
   | exact ih2 _ _ _ _ _ _ _ _ _ _
   | exact bcd_Get.mono _ _ _
   | exact cell_how.mono _ _ _
   | exact hexa_Get.mono _ _
   | exact prefix_Get.mono _ _ _ _ _
   | exact spec_Check.mono _ _ _ _ _ _
   | exact spec_Value.mono _ _ _ _ _ _ _
   | exact LeO.none _
   | refine LeO.ite ?_ ?_
   | refine LeO.bind ?_ (fun _ => ?_)
  ·intro y0 y1 y2 y3 y4 y5 y6 y7 y8
   unfold cell_Get.j1
   repeat' first
   | (with_reducible exact ih0 _ _ _ _ _ _ _ _ _)
   | (with_reducible exact ih1 _ _ _ _ _ _ _ _ _)
   | (with_reducible exact ih2 _ _ _ _ _ _ _ _ _ _)
   | (with_reducible exact bcd_Get.mono _ _ _)
   | (with_reducible exact cell_how.mono _ _ _)
   | (with_reducible exact hexa_Get.mono _ _)
   | (with_reducible exact prefix_Get.mono _ _ _ _ _)
   | (with_reducible exact spec_Check.mono _ _ _ _ _ _)
   | (with_reducible exact spec_Value.mono _ _ _ _ _ _ _)
   | (with_reducible exact LeO.refl _)
   | (with_reducible exact LeO.none _)
   | (with_reducible refine LeO.ite ?_ ?_)
   | (with_reducible refine LeO.bind ?_ (fun _ => ?_))
   | exact ih0 _ _ _ _ _ _ _ _ _
   | exact ih1 _ _ _ _ _ _ _ _ _
   | exact ih2 _ _ _ _ _ _ _ _ _ _
   | exact bcd_Get.mono _ _ _
   | exact cell_how.mono _ _ _
   | exact hexa_Get.mono _ _
   | exact prefix_Get.mono _ _ _ _ _
   | exact spec_Check.mono _ _ _ _ _ _
   | exact spec_Value.mono _ _ _ _ _ _ _
   | exact LeO.none _
   | refine LeO.ite ?_ ?_
   | refine LeO.bind ?_ (fun _ => ?_)
  ·intro y0 y1 y2 y3 y4 y5 y6 y7 y8 y9
   unfold cell_Get.j2
   repeat' first
   | (with_reducible exact ih0 _ _ _ _ _ _ _ _ _)
   | (with_reducible exact ih1 _ _ _ _ _ _ _ _ _)
   | (with_reducible exact ih2 _ _ _ _ _ _ _ _ _ _)
   | (with_reducible exact bcd_Get.mono _ _ _)
   | (with_reducible exact cell_how.mono _ _ _)
   | (with_reducible exact hexa_Get.mono _ _)
   | (with_reducible exact prefix_Get.mono _ _ _ _ _)
   | (with_reducible exact spec_Check.mono _ _ _ _ _ _)
   | (with_reducible exact spec_Value.mono _ _ _ _ _ _ _)
   | (with_reducible exact LeO.refl _)
   | (with_reducible exact LeO.none _)
   | (with_reducible refine LeO.ite ?_ ?_)
   | (with_reducible refine LeO.bind ?_ (fun _ => ?_))
   | exact ih0 _ _ _ _ _ _ _ _ _
   | exact ih1 _ _ _ _ _ _ _ _ _
   | exact ih2 _ _ _ _ _ _ _ _ _ _
   | exact bcd_Get.mono _ _ _
   | exact cell_how.mono _ _ _
   | exact hexa_Get.mono _ _
   | exact prefix_Get.mono _ _ _ _ _
   | exact spec_Check.mono _ _ _ _ _ _
   | exact spec_Value.mono _ _ _ _ _ _ _
   | exact LeO.none _
   | refine LeO.ite ?_ ?_
   | refine LeO.bind ?_ (fun _ => ?_)
theorem cell_Get.mono : ∀ a0 a1 a2 a3 a4 a5 a6 a7 k, LeO (cell_Get.f k a0 a1 a2 a3 a4 a5 a6 a7) (cell_Get.f (k + 1) a0 a1 a2 a3 a4 a5 a6 a7) := by
 intro a0 a1 a2 a3 a4 a5 a6 a7 k
 obtain ⟨ih0, ih1, ih2⟩ := cell_Get.mono_l k
 unfold cell_Get.f
 repeat' first
   | (with_reducible exact ih0 _ _ _ _ _ _ _ _ _)
   | (with_reducible exact ih1 _ _ _ _ _ _ _ _ _)
   | (with_reducible exact ih2 _ _ _ _ _ _ _ _ _ _)
   | (with_reducible exact bcd_Get.mono _ _ _)
   | (with_reducible exact cell_how.mono _ _ _)
   | (with_reducible exact hexa_Get.mono _ _)
   | (with_reducible exact prefix_Get.mono _ _ _ _ _)
   | (with_reducible exact spec_Check.mono _ _ _ _ _ _)
   | (with_reducible exact spec_Value.mono _ _ _ _ _ _ _)
   | (with_reducible exact LeO.refl _)
   | (with_reducible exact LeO.none _)
   | (with_reducible refine LeO.ite ?_ ?_)
   | (with_reducible refine LeO.bind ?_ (fun _ => ?_))
   | exact ih0 _ _ _ _ _ _ _ _ _
   | exact ih1 _ _ _ _ _ _ _ _ _
   | exact ih2 _ _ _ _ _ _ _ _ _ _
   | exact bcd_Get.mono _ _ _
   | exact cell_how.mono _ _ _
   | exact hexa_Get.mono _ _
   | exact prefix_Get.mono _ _ _ _ _
   | exact spec_Check.mono _ _ _ _ _ _
   | exact spec_Value.mono _ _ _ _ _ _ _
   | exact LeO.none _
   | refine LeO.ite ?_ ?_
   | refine LeO.bind ?_ (fun _ => ?_)
set_option maxHeartbeats 8000000 in
set_option maxRecDepth 100000 in
theorem cell_Get.calls (k : Nat) (a0 : Int) (a1_0 : Int) (a1_1 : Int) (a1_2 : Int) (a1_3 : Int) (a1_4 : Int) (a2 : ByteArray) (a3 : Int) (r1 : ByteArray) (r2 : Int) (r3 : Int) (w : World) (h : cell_Get.f k a0 a1_0 a1_1 a1_2 a1_3 a1_4 a2 a3 = some (r1, r2, r3)) :
  Calls Try.prog 23 #[.int .i64 a0, .agg #[.int .i64 a1_0, .int .i64 a1_1, .int .i64 a1_2, .int .i64 a1_3, .int .i64 a1_4], .string a2, .int .i64 a3] w fun e w' => e = .returned (.tuple #[.string r1, .int .i64 r2, .int .i64 r3]) ∧ Below w.heap.size w w' := by
 have hu23 := Try.underlying23
 have HB := Aside0.mk (Below.refl w.heap.size w)
 have H : ((cell_known.f a0).bind fun t268 => (if t268 = true then ((spec_Check.f k a1_0 a1_1 a1_2 a1_3 a1_4).bind fun t269 => (if t269 = 0 then (if a3 < 0 then (cell_Get.j0 k a0 a2 a3 true a1_0 a1_1 a1_2 a1_3 a1_4) else (cell_Get.j0 k a0 a2 a3 (decide (a3 > (a2.size : Int))) a1_0 a1_1 a1_2 a1_3 a1_4)) else (cell_Get.j0 k a0 a2 a3 true a1_0 a1_1 a1_2 a1_3 a1_4))) else (cell_Get.j0 k a0 a2 a3 true a1_0 a1_1 a1_2 a1_3 a1_4))) = some (r1, r2, r3) := h
 clear h
 have HC5 := Aside0.mk H
 clear H
 go_enter Try.func23, Try.ntmps23
 go_upto_region 1 with (first | ((with_reducible refine gate_dst (N := 5) rfl ?_); refine box_event ?hg (N := 5) ?hd (cs := #[.int .i64 a1_0, .int .i64 a1_1, .int .i64 a1_2, .int .i64 a1_3, .int .i64 a1_4]) (t := 23) ?hr ?_; (case hd => rfl); (case hg => rfl); (case hr => first | (go_simp; done) | (go_simp; rfl) | (have hu8_ := IntKind.wrap_u8; go_simp; done) | (have hu8_ := IntKind.wrap_u8; go_simp; rfl) | (go_simp; simp [IntKind.wrap_u8]; done)); intro gb267 hg w6 hbox hb; have n0_ := Aside0.mk (below_step (by repeat (first | (with_reducible first | exact HB.out | apply below_alloc | apply pw_below_drewN | apply below_drew1) | exact HB.out)) hb); have n1_ := Aside0.mk (hbox); have n2_ := Aside0.mk ((by rw [hg]; exact (below_size (by repeat (first | (with_reducible first | exact HB.out | apply below_alloc | apply pw_below_drewN | apply below_drew1) | exact HB.out))) : w.heap.size ≤ gb267)); have n3_ := Aside0.mk ((by rw [hg]; exact (below_size (by repeat (first | (with_reducible first | exact HB.out | apply below_alloc | apply pw_below_drewN | apply below_drew1) | exact HB.out))) : w.heap.size ≤ gb267)); clear HB; have HB := n0_; have BK267 := n1_; have GW267 := n2_; have GE267 := n3_; clear n0_ n1_ n2_ n3_; clear hb hbox hg))
 (try simp only [Act.put, List.setIfInBounds_toArray, List.set_cons_zero, List.set_cons_succ])
 go_cut [39] (fun v39 wc => ∃ (kq : Nat) (x39_4 : Bool), v39 = .bool x39_4 ∧ Aside0 (cell_Get.j0 kq a0 a2 a3 x39_4 a1_0 a1_1 a1_2 a1_3 a1_4 = some (r1, r2, r3)) ∧ Aside0 (kq ≤ k) ∧ Aside0 (wc.heap[gb267]? = some (.cells #[.int .i64 a1_0, .int .i64 a1_1, .int .i64 a1_2, .int .i64 a1_3, .int .i64 a1_4] 23 (0, 0))) ∧ Aside0 (Below w.heap.size w wc))
 case first =>
  have H := HC5.out
  clear HC5
  replace H := Option.bind_eq_some_iff.mp H
  obtain ⟨t268, A70, H⟩ := H
  replace H : (if t268 = true then ((spec_Check.f k a1_0 a1_1 a1_2 a1_3 a1_4).bind fun t269 => (if t269 = 0 then (if a3 < 0 then (cell_Get.j0 k a0 a2 a3 true a1_0 a1_1 a1_2 a1_3 a1_4) else (cell_Get.j0 k a0 a2 a3 (decide (a3 > (a2.size : Int))) a1_0 a1_1 a1_2 a1_3 a1_4)) else (cell_Get.j0 k a0 a2 a3 true a1_0 a1_1 a1_2 a1_3 a1_4))) else (cell_Get.j0 k a0 a2 a3 true a1_0 a1_1 a1_2 a1_3 a1_4)) = some (r1, r2, r3) := H
  have A7 := Aside0.mk A70
  clear A70
  by_cases c8 : t268 = true
  ·subst c8
   have H1 : ((spec_Check.f k a1_0 a1_1 a1_2 a1_3 a1_4).bind fun t269 => (if t269 = 0 then (if a3 < 0 then (cell_Get.j0 k a0 a2 a3 true a1_0 a1_1 a1_2 a1_3 a1_4) else (cell_Get.j0 k a0 a2 a3 (decide (a3 > (a2.size : Int))) a1_0 a1_1 a1_2 a1_3 a1_4)) else (cell_Get.j0 k a0 a2 a3 true a1_0 a1_1 a1_2 a1_3 a1_4))) = some (r1, r2, r3) := by rw [if_pos rfl] at H; exact H
   clear H
   have H := H1
   clear H1
   replace H := Option.bind_eq_some_iff.mp H
   obtain ⟨t269, A90, H⟩ := H
   replace H : (if t269 = 0 then (if a3 < 0 then (cell_Get.j0 k a0 a2 a3 true a1_0 a1_1 a1_2 a1_3 a1_4) else (cell_Get.j0 k a0 a2 a3 (decide (a3 > (a2.size : Int))) a1_0 a1_1 a1_2 a1_3 a1_4)) else (cell_Get.j0 k a0 a2 a3 true a1_0 a1_1 a1_2 a1_3 a1_4)) = some (r1, r2, r3) := H
   have A9 := Aside0.mk A90
   clear A90
   by_cases c10 : t269 = 0
   ·rw [if_pos c10] at H
    have c10b0 : (t269 == 0) = true := beq_iff_eq.mpr c10
    have c10b1 : (t269 != 0) = false := bne_eq_false_iff_eq.mpr c10
    clear c10
    (first | rw [c10b0] | (simp only [i64_w, i32_w]; rw [c10b0]) | skip)
    by_cases c11 : a3 < 0
    ·rw [if_pos c11] at H
     have c11b0 : decide (a3 < 0) = true := decide_eq_true c11
     clear c11
     have H' := Aside0.mk H
     clear H
     go_wp2_with (first | ((with_reducible refine gate_callee (f := 33) rfl ?_); refine goesL_ (some 23) rfl rfl Try.func33 (by kernel_rfl) rfl #[.int .i64 a0] rfl (by (try simp only [List.map_toArray, List.map_cons, List.map_nil]); first | done | rfl | (simp only [List.length_drop, List.length_take]; rfl)) ?_; (with_reducible refine (cell_known.calls a0 true _ A7.out).mono ?_); rintro e w' ⟨rfl, ⟨nd, rfl⟩⟩; refine ⟨_, rfl, ?_⟩; have hcz12_0 : w6.cell? ⟨gb267, 0, none⟩ = some (.int .i64 a1_0) := (blk_cell BK267.out 0).trans rfl; have hcz12_1 : w6.cell? ⟨gb267, 1, none⟩ = some (.int .i64 a1_1) := (blk_cell BK267.out 1).trans rfl; have hcz12_2 : w6.cell? ⟨gb267, 2, none⟩ = some (.int .i64 a1_2) := (blk_cell BK267.out 2).trans rfl; have hcz12_3 : w6.cell? ⟨gb267, 3, none⟩ = some (.int .i64 a1_3) := (blk_cell BK267.out 3).trans rfl; have hcz12_4 : w6.cell? ⟨gb267, 4, none⟩ = some (.int .i64 a1_4) := (blk_cell BK267.out 4).trans rfl; have hfz12_0 := blk_frozen BK267.out 0; have hfz12_1 := blk_frozen BK267.out 1; have hfz12_2 := blk_frozen BK267.out 2; have hfz12_3 := blk_frozen BK267.out 3; have hfz12_4 := blk_frozen BK267.out 4) | (go_at_call 14; (with_reducible refine (spec_Check.calls k a1_0 a1_1 a1_2 a1_3 a1_4 t269 _ A9.out).mono ?_); rintro e w13 ⟨rfl, hb⟩; have n0_ := Aside0.mk (blk_below (g := gb267) (o := .cells #[.int .i64 a1_0, .int .i64 a1_1, .int .i64 a1_2, .int .i64 a1_3, .int .i64 a1_4] 23 (0, 0)) (by (with_reducible repeat (first | refine blk_drewN ?_ _ | refine blk_drew ?_ | refine blk_alloc ?_ _)); exact BK267.out) hb); have n1_ := Aside0.mk (below_step (by repeat (first | (with_reducible first | exact HB.out | apply below_alloc | apply pw_below_drewN | apply below_drew1 | refine below_set ?_ GE267.out) | exact HB.out)) hb); clear BK267; clear HB; have BK267 := n0_; have HB := n1_; clear n0_ n1_; (try clear hb); (try clear hb2); (try clear hk); (try clear hi)))
     go_meet
     case rel => exact ⟨_, (true), (by first | rfl | (simp; done) | (simp [*]; done) | (simp [wrap64]; done)), H', ⟨by first | omega | exact Nat.le_refl _⟩, ⟨by (with_reducible repeat (first | refine blk_drewN ?_ _ | refine blk_drew ?_ | refine blk_alloc ?_ _)); exact BK267.out⟩, ⟨by repeat (first | (with_reducible first | exact HB.out | apply below_alloc | apply pw_below_drewN | apply below_drew1 | refine below_set ?_ GE267.out) | exact HB.out)⟩⟩
    ·rw [if_neg c11] at H
     have c11b0 : decide (a3 < 0) = false := decide_eq_false c11
     clear c11
     have H' := Aside0.mk H
     clear H
     go_wp2_with (first | ((with_reducible refine gate_callee (f := 33) rfl ?_); refine goesL_ (some 23) rfl rfl Try.func33 (by kernel_rfl) rfl #[.int .i64 a0] rfl (by (try simp only [List.map_toArray, List.map_cons, List.map_nil]); first | done | rfl | (simp only [List.length_drop, List.length_take]; rfl)) ?_; (with_reducible refine (cell_known.calls a0 true _ A7.out).mono ?_); rintro e w' ⟨rfl, ⟨nd, rfl⟩⟩; refine ⟨_, rfl, ?_⟩; have hcz14_0 : w6.cell? ⟨gb267, 0, none⟩ = some (.int .i64 a1_0) := (blk_cell BK267.out 0).trans rfl; have hcz14_1 : w6.cell? ⟨gb267, 1, none⟩ = some (.int .i64 a1_1) := (blk_cell BK267.out 1).trans rfl; have hcz14_2 : w6.cell? ⟨gb267, 2, none⟩ = some (.int .i64 a1_2) := (blk_cell BK267.out 2).trans rfl; have hcz14_3 : w6.cell? ⟨gb267, 3, none⟩ = some (.int .i64 a1_3) := (blk_cell BK267.out 3).trans rfl; have hcz14_4 : w6.cell? ⟨gb267, 4, none⟩ = some (.int .i64 a1_4) := (blk_cell BK267.out 4).trans rfl; have hfz14_0 := blk_frozen BK267.out 0; have hfz14_1 := blk_frozen BK267.out 1; have hfz14_2 := blk_frozen BK267.out 2; have hfz14_3 := blk_frozen BK267.out 3; have hfz14_4 := blk_frozen BK267.out 4) | (go_at_call 14; (with_reducible refine (spec_Check.calls k a1_0 a1_1 a1_2 a1_3 a1_4 t269 _ A9.out).mono ?_); rintro e w15 ⟨rfl, hb⟩; have n0_ := Aside0.mk (blk_below (g := gb267) (o := .cells #[.int .i64 a1_0, .int .i64 a1_1, .int .i64 a1_2, .int .i64 a1_3, .int .i64 a1_4] 23 (0, 0)) (by (with_reducible repeat (first | refine blk_drewN ?_ _ | refine blk_drew ?_ | refine blk_alloc ?_ _)); exact BK267.out) hb); have n1_ := Aside0.mk (below_step (by repeat (first | (with_reducible first | exact HB.out | apply below_alloc | apply pw_below_drewN | apply below_drew1 | refine below_set ?_ GE267.out) | exact HB.out)) hb); clear BK267; clear HB; have BK267 := n0_; have HB := n1_; clear n0_ n1_; (try clear hb); (try clear hb2); (try clear hk); (try clear hi)))
     go_meet
     case rel => exact ⟨_, (decide (a3 > (a2.size : Int))), (by first | rfl | (simp; done) | (simp [*]; done) | (simp [wrap64]; done)), H', ⟨by first | omega | exact Nat.le_refl _⟩, ⟨by (with_reducible repeat (first | refine blk_drewN ?_ _ | refine blk_drew ?_ | refine blk_alloc ?_ _)); exact BK267.out⟩, ⟨by repeat (first | (with_reducible first | exact HB.out | apply below_alloc | apply pw_below_drewN | apply below_drew1 | refine below_set ?_ GE267.out) | exact HB.out)⟩⟩
   ·rw [if_neg c10] at H
    have c10b0 : (t269 == 0) = false := beq_eq_false_iff_ne.mpr c10
    have c10b1 : (t269 != 0) = true := bne_iff_ne.mpr c10
    (first | rw [c10b0] | (simp only [i64_w, i32_w]; rw [c10b0]) | skip)
    have H' := Aside0.mk H
    clear H
    go_wp2_with (first | ((with_reducible refine gate_callee (f := 33) rfl ?_); refine goesL_ (some 23) rfl rfl Try.func33 (by kernel_rfl) rfl #[.int .i64 a0] rfl (by (try simp only [List.map_toArray, List.map_cons, List.map_nil]); first | done | rfl | (simp only [List.length_drop, List.length_take]; rfl)) ?_; (with_reducible refine (cell_known.calls a0 true _ A7.out).mono ?_); rintro e w' ⟨rfl, ⟨nd, rfl⟩⟩; refine ⟨_, rfl, ?_⟩; have hcz16_0 : w6.cell? ⟨gb267, 0, none⟩ = some (.int .i64 a1_0) := (blk_cell BK267.out 0).trans rfl; have hcz16_1 : w6.cell? ⟨gb267, 1, none⟩ = some (.int .i64 a1_1) := (blk_cell BK267.out 1).trans rfl; have hcz16_2 : w6.cell? ⟨gb267, 2, none⟩ = some (.int .i64 a1_2) := (blk_cell BK267.out 2).trans rfl; have hcz16_3 : w6.cell? ⟨gb267, 3, none⟩ = some (.int .i64 a1_3) := (blk_cell BK267.out 3).trans rfl; have hcz16_4 : w6.cell? ⟨gb267, 4, none⟩ = some (.int .i64 a1_4) := (blk_cell BK267.out 4).trans rfl; have hfz16_0 := blk_frozen BK267.out 0; have hfz16_1 := blk_frozen BK267.out 1; have hfz16_2 := blk_frozen BK267.out 2; have hfz16_3 := blk_frozen BK267.out 3; have hfz16_4 := blk_frozen BK267.out 4) | (go_at_call 14; (with_reducible refine (spec_Check.calls k a1_0 a1_1 a1_2 a1_3 a1_4 t269 _ A9.out).mono ?_); rintro e w17 ⟨rfl, hb⟩; have n0_ := Aside0.mk (blk_below (g := gb267) (o := .cells #[.int .i64 a1_0, .int .i64 a1_1, .int .i64 a1_2, .int .i64 a1_3, .int .i64 a1_4] 23 (0, 0)) (by (with_reducible repeat (first | refine blk_drewN ?_ _ | refine blk_drew ?_ | refine blk_alloc ?_ _)); exact BK267.out) hb); have n1_ := Aside0.mk (below_step (by repeat (first | (with_reducible first | exact HB.out | apply below_alloc | apply pw_below_drewN | apply below_drew1 | refine below_set ?_ GE267.out) | exact HB.out)) hb); clear BK267; clear HB; have BK267 := n0_; have HB := n1_; clear n0_ n1_; (try clear hb); (try clear hb2); (try clear hk); (try clear hi)))
    go_meet
    case rel => exact ⟨_, (true), (by first | rfl | (simp; done) | (simp [*]; done) | (simp [wrap64]; done)), H', ⟨by first | omega | exact Nat.le_refl _⟩, ⟨by (with_reducible repeat (first | refine blk_drewN ?_ _ | refine blk_drew ?_ | refine blk_alloc ?_ _)); exact BK267.out⟩, ⟨by repeat (first | (with_reducible first | exact HB.out | apply below_alloc | apply pw_below_drewN | apply below_drew1 | refine below_set ?_ GE267.out) | exact HB.out)⟩⟩
  ·replace c8 := Bool.eq_false_iff.mpr c8
   subst c8
   have H1 : (cell_Get.j0 k a0 a2 a3 true a1_0 a1_1 a1_2 a1_3 a1_4) = some (r1, r2, r3) := by rw [if_neg (show ¬ (false = true) by decide)] at H; exact H
   clear H
   have H := H1
   clear H1
   have H' := Aside0.mk H
   clear H
   go_wp2_with (first | ((with_reducible refine gate_callee (f := 33) rfl ?_); refine goesL_ (some 23) rfl rfl Try.func33 (by kernel_rfl) rfl #[.int .i64 a0] rfl (by (try simp only [List.map_toArray, List.map_cons, List.map_nil]); first | done | rfl | (simp only [List.length_drop, List.length_take]; rfl)) ?_; (with_reducible refine (cell_known.calls a0 false _ A7.out).mono ?_); rintro e w' ⟨rfl, ⟨nd, rfl⟩⟩; refine ⟨_, rfl, ?_⟩))
   go_meet
   case rel => exact ⟨_, (true), (by first | rfl | (simp; done) | (simp [*]; done) | (simp [wrap64]; done)), H', ⟨by first | omega | exact Nat.le_refl _⟩, ⟨by (with_reducible repeat (first | refine blk_drewN ?_ _ | refine blk_drew ?_ | refine blk_alloc ?_ _)); exact BK267.out⟩, ⟨by repeat (first | (with_reducible first | exact HB.out | apply below_alloc | apply pw_below_drewN | apply below_drew1 | refine below_set ?_ GE267.out) | exact HB.out)⟩⟩
 case rest =>
  clear HC5
  try clear c1
  try clear c2
  try clear p2
  try clear c3
  try clear p6
  try clear c8
  try clear c10
  try clear c10b0
  try clear c10b1
  try clear c11
  try clear c11b0
  try clear hcz12_0
  try clear hcz12_1
  try clear hcz12_2
  try clear hcz12_3
  try clear hcz12_4
  try clear hcz14_0
  try clear hcz14_1
  try clear hcz14_2
  try clear hcz14_3
  try clear hcz14_4
  try clear hcz16_0
  try clear hcz16_1
  try clear hcz16_2
  try clear hcz16_3
  try clear hcz16_4
  try clear hfz12_0
  try clear hfz12_1
  try clear hfz12_2
  try clear hfz12_3
  try clear hfz12_4
  try clear hfz14_0
  try clear hfz14_1
  try clear hfz14_2
  try clear hfz14_3
  try clear hfz14_4
  try clear hfz16_0
  try clear hfz16_1
  try clear hfz16_2
  try clear hfz16_3
  try clear hfz16_4
  obtain ⟨kq, x39_4, rfl, HA, HJ4, BK267, HB⟩ := hcut
  cases kq with
  | zero => exact absurd HA.out (by simp [cell_Get.j0])
  | succ kj4 =>
   have H := HA.out
   clear HA
   simp only [cell_Get.j0] at H
   by_cases c18 : x39_4 = true
   ·subst c18
    have H1 : (some ((⟨#[]⟩ : ByteArray), 0, 1)) = some (r1, r2, r3) := by rw [if_pos rfl] at H; exact H
    clear H
    have H := H1
    clear H1
    simp only [Option.some.injEq, Prod.mk.injEq] at H
    obtain ⟨rfl, rfl, rfl⟩ := H
    go_wp2
    go_ret3
    exact ⟨by first | rfl | (simp [errW_none, errW_some] <;> rfl) | (simp [*, errW_none, errW_some] <;> rfl), by repeat (first | (with_reducible first | exact HB.out | apply below_alloc | apply pw_below_drewN | apply below_drew1 | refine below_set ?_ GE267.out) | exact HB.out)⟩
   ·replace c18 := Bool.eq_false_iff.mpr c18
    subst c18
    have H1 : (if a1_2 = 1 then (cell_Get.j1 kj4 a0 a2 a3 a1_3 a1_0 a1_1 a1_2 a1_3 a1_4) else ((prefix_Get.f kj4 a0 a1_2 a2 a3).bind fun bt270 => (if bt270.2.2 = 0 then (if bt270.1 < a1_3 then (some ((⟨#[]⟩ : ByteArray), 0, 5)) else (if bt270.1 > a1_4 then (some ((⟨#[]⟩ : ByteArray), 0, 5)) else (cell_Get.j1 kj4 a0 a2 bt270.2.1 bt270.1 a1_0 a1_1 a1_2 a1_3 a1_4))) else (some ((⟨#[]⟩ : ByteArray), 0, bt270.2.2))))) = some (r1, r2, r3) := by rw [if_neg (show ¬ (false = true) by decide)] at H; exact H
    clear H
    have H := H1
    clear H1
    have HC19 := Aside0.mk H
    clear H
    have hcz20_0 : wc.cell? ⟨gb267, 0, none⟩ = some (.int .i64 a1_0) := (blk_cell BK267.out 0).trans rfl
    have hcz20_1 : wc.cell? ⟨gb267, 1, none⟩ = some (.int .i64 a1_1) := (blk_cell BK267.out 1).trans rfl
    have hcz20_2 : wc.cell? ⟨gb267, 2, none⟩ = some (.int .i64 a1_2) := (blk_cell BK267.out 2).trans rfl
    have hcz20_3 : wc.cell? ⟨gb267, 3, none⟩ = some (.int .i64 a1_3) := (blk_cell BK267.out 3).trans rfl
    have hcz20_4 : wc.cell? ⟨gb267, 4, none⟩ = some (.int .i64 a1_4) := (blk_cell BK267.out 4).trans rfl
    have hfz20_0 := blk_frozen BK267.out 0
    have hfz20_1 := blk_frozen BK267.out 1
    have hfz20_2 := blk_frozen BK267.out 2
    have hfz20_3 := blk_frozen BK267.out 3
    have hfz20_4 := blk_frozen BK267.out 4
    go_upto_if 44 with (fail)
    go_cut [3, 11] (fun v3 v11 wc => ∃ (kq : Nat) (x3_18 : Int) (x11_18 : Int), v3 = .int .i64 x3_18 ∧ v11 = .int .i64 x11_18 ∧ Aside0 (cell_Get.j1 kq a0 a2 x3_18 x11_18 a1_0 a1_1 a1_2 a1_3 a1_4 = some (r1, r2, r3)) ∧ Aside0 (kq ≤ kj4) ∧ Aside0 (wc.heap[gb267]? = some (.cells #[.int .i64 a1_0, .int .i64 a1_1, .int .i64 a1_2, .int .i64 a1_3, .int .i64 a1_4] 23 (0, 0))) ∧ Aside0 (Below w.heap.size w wc))
    case first =>
     have H := HC19.out
     clear HC19
     by_cases c21 : a1_2 = 1
     ·rw [if_pos c21] at H
      have c21b0 : (a1_2 == 1) = true := beq_iff_eq.mpr c21
      have c21b1 : (a1_2 != 1) = false := bne_eq_false_iff_eq.mpr c21
      clear c21
      (first | rw [c21b0] | (simp only [i64_w, i32_w]; rw [c21b0]) | skip)
      have H' := Aside0.mk H
      clear H
      go_wp2
      go_meet
      case rel => exact ⟨_, (a3), (a1_3), (by first | rfl | (simp; done) | (simp [*]; done) | (simp [wrap64]; done)), (by first | rfl | (simp; done) | (simp [*]; done) | (simp [wrap64]; done)), H', ⟨by have := HJ4.out; first | omega | exact Nat.le_refl _⟩, ⟨by (with_reducible repeat (first | refine blk_drewN ?_ _ | refine blk_drew ?_ | refine blk_alloc ?_ _)); exact BK267.out⟩, ⟨by repeat (first | (with_reducible first | exact HB.out | apply below_alloc | apply pw_below_drewN | apply below_drew1 | refine below_set ?_ GE267.out) | exact HB.out)⟩⟩
     ·rw [if_neg c21] at H
      have c21b0 : (a1_2 == 1) = false := beq_eq_false_iff_ne.mpr c21
      have c21b1 : (a1_2 != 1) = true := bne_iff_ne.mpr c21
      (first | rw [c21b0] | (simp only [i64_w, i32_w]; rw [c21b0]) | skip)
      replace H := Option.bind_eq_some_iff.mp H
      obtain ⟨⟨t270, t271, t272⟩, A220, H⟩ := H
      replace H : (if t272 = 0 then (if t270 < a1_3 then (some ((⟨#[]⟩ : ByteArray), 0, 5)) else (if t270 > a1_4 then (some ((⟨#[]⟩ : ByteArray), 0, 5)) else (cell_Get.j1 kj4 a0 a2 t271 t270 a1_0 a1_1 a1_2 a1_3 a1_4))) else (some ((⟨#[]⟩ : ByteArray), 0, t272))) = some (r1, r2, r3) := H
      have A22 := Aside0.mk A220
      clear A220
      by_cases c23 : t272 = 0
      ·rw [if_pos c23] at H
       have c23b0 : (t272 == 0) = true := beq_iff_eq.mpr c23
       have c23b1 : (t272 != 0) = false := bne_eq_false_iff_eq.mpr c23
       clear c23
       by_cases c24 : t270 < a1_3
       ·rw [if_pos c24] at H
        have c24b0 : decide (t270 < a1_3) = true := decide_eq_true c24
        clear c24
        simp only [Option.some.injEq, Prod.mk.injEq] at H
        obtain ⟨rfl, rfl, rfl⟩ := H
        have hcz25_0 : wc.cell? ⟨gb267, 0, none⟩ = some (.int .i64 a1_0) := (blk_cell BK267.out 0).trans rfl
        have hcz25_1 : wc.cell? ⟨gb267, 1, none⟩ = some (.int .i64 a1_1) := (blk_cell BK267.out 1).trans rfl
        have hcz25_2 : wc.cell? ⟨gb267, 2, none⟩ = some (.int .i64 a1_2) := (blk_cell BK267.out 2).trans rfl
        have hcz25_3 : wc.cell? ⟨gb267, 3, none⟩ = some (.int .i64 a1_3) := (blk_cell BK267.out 3).trans rfl
        have hcz25_4 : wc.cell? ⟨gb267, 4, none⟩ = some (.int .i64 a1_4) := (blk_cell BK267.out 4).trans rfl
        have hfz25_0 := blk_frozen BK267.out 0
        have hfz25_1 := blk_frozen BK267.out 1
        have hfz25_2 := blk_frozen BK267.out 2
        have hfz25_3 := blk_frozen BK267.out 3
        have hfz25_4 := blk_frozen BK267.out 4
        go_wp2_with (first | ((with_reducible refine gate_callee (f := 40) rfl ?_); refine goesL_ (some 51) rfl rfl Try.func40 (by kernel_rfl) rfl #[.int .i64 a0, .int .i64 a1_2, .string a2, .int .i64 a3] rfl (by (try simp only [List.map_toArray, List.map_cons, List.map_nil]); first | done | rfl | (simp only [List.length_drop, List.length_take]; rfl)) ?_; (with_reducible refine (prefix_Get.calls kj4 a0 a1_2 a2 a3 t270 t271 t272 _ A22.out).mono ?_); rintro e w26 ⟨rfl, hb⟩; refine ⟨_, rfl, ?_⟩; have n0_ := Aside0.mk (blk_below (g := gb267) (o := .cells #[.int .i64 a1_0, .int .i64 a1_1, .int .i64 a1_2, .int .i64 a1_3, .int .i64 a1_4] 23 (0, 0)) (by (with_reducible repeat (first | refine blk_drewN ?_ _ | refine blk_drew ?_ | refine blk_alloc ?_ _)); exact BK267.out) hb); have n1_ := Aside0.mk (below_step (by repeat (first | (with_reducible first | exact HB.out | apply below_alloc | apply pw_below_drewN | apply below_drew1 | refine below_set ?_ GE267.out) | exact HB.out)) hb); clear BK267; clear HB; have BK267 := n0_; have HB := n1_; clear n0_ n1_; (try clear hb); (try clear hb2); (try clear hk); (try clear hi); have hcz27_0 : w26.cell? ⟨gb267, 0, none⟩ = some (.int .i64 a1_0) := (blk_cell BK267.out 0).trans rfl; have hcz27_1 : w26.cell? ⟨gb267, 1, none⟩ = some (.int .i64 a1_1) := (blk_cell BK267.out 1).trans rfl; have hcz27_2 : w26.cell? ⟨gb267, 2, none⟩ = some (.int .i64 a1_2) := (blk_cell BK267.out 2).trans rfl; have hcz27_3 : w26.cell? ⟨gb267, 3, none⟩ = some (.int .i64 a1_3) := (blk_cell BK267.out 3).trans rfl; have hcz27_4 : w26.cell? ⟨gb267, 4, none⟩ = some (.int .i64 a1_4) := (blk_cell BK267.out 4).trans rfl; have hfz27_0 := blk_frozen BK267.out 0; have hfz27_1 := blk_frozen BK267.out 1; have hfz27_2 := blk_frozen BK267.out 2; have hfz27_3 := blk_frozen BK267.out 3; have hfz27_4 := blk_frozen BK267.out 4))
        go_ret3
        exact ⟨by first | rfl | (simp [errW_none, errW_some] <;> rfl) | (simp [*, errW_none, errW_some] <;> rfl), by repeat (first | (with_reducible first | exact HB.out | apply below_alloc | apply pw_below_drewN | apply below_drew1 | refine below_set ?_ GE267.out) | exact HB.out)⟩
       ·rw [if_neg c24] at H
        have c24b0 : decide (t270 < a1_3) = false := decide_eq_false c24
        clear c24
        by_cases c28 : t270 > a1_4
        ·rw [if_pos c28] at H
         have c28b0 : decide (a1_4 < t270) = true := decide_eq_true c28
         clear c28
         simp only [Option.some.injEq, Prod.mk.injEq] at H
         obtain ⟨rfl, rfl, rfl⟩ := H
         have hcz29_0 : wc.cell? ⟨gb267, 0, none⟩ = some (.int .i64 a1_0) := (blk_cell BK267.out 0).trans rfl
         have hcz29_1 : wc.cell? ⟨gb267, 1, none⟩ = some (.int .i64 a1_1) := (blk_cell BK267.out 1).trans rfl
         have hcz29_2 : wc.cell? ⟨gb267, 2, none⟩ = some (.int .i64 a1_2) := (blk_cell BK267.out 2).trans rfl
         have hcz29_3 : wc.cell? ⟨gb267, 3, none⟩ = some (.int .i64 a1_3) := (blk_cell BK267.out 3).trans rfl
         have hcz29_4 : wc.cell? ⟨gb267, 4, none⟩ = some (.int .i64 a1_4) := (blk_cell BK267.out 4).trans rfl
         have hfz29_0 := blk_frozen BK267.out 0
         have hfz29_1 := blk_frozen BK267.out 1
         have hfz29_2 := blk_frozen BK267.out 2
         have hfz29_3 := blk_frozen BK267.out 3
         have hfz29_4 := blk_frozen BK267.out 4
         go_wp2_with (first | ((with_reducible refine gate_callee (f := 40) rfl ?_); refine goesL_ (some 51) rfl rfl Try.func40 (by kernel_rfl) rfl #[.int .i64 a0, .int .i64 a1_2, .string a2, .int .i64 a3] rfl (by (try simp only [List.map_toArray, List.map_cons, List.map_nil]); first | done | rfl | (simp only [List.length_drop, List.length_take]; rfl)) ?_; (with_reducible refine (prefix_Get.calls kj4 a0 a1_2 a2 a3 t270 t271 t272 _ A22.out).mono ?_); rintro e w30 ⟨rfl, hb⟩; refine ⟨_, rfl, ?_⟩; have n0_ := Aside0.mk (blk_below (g := gb267) (o := .cells #[.int .i64 a1_0, .int .i64 a1_1, .int .i64 a1_2, .int .i64 a1_3, .int .i64 a1_4] 23 (0, 0)) (by (with_reducible repeat (first | refine blk_drewN ?_ _ | refine blk_drew ?_ | refine blk_alloc ?_ _)); exact BK267.out) hb); have n1_ := Aside0.mk (below_step (by repeat (first | (with_reducible first | exact HB.out | apply below_alloc | apply pw_below_drewN | apply below_drew1 | refine below_set ?_ GE267.out) | exact HB.out)) hb); clear BK267; clear HB; have BK267 := n0_; have HB := n1_; clear n0_ n1_; (try clear hb); (try clear hb2); (try clear hk); (try clear hi); have hcz31_0 : w30.cell? ⟨gb267, 0, none⟩ = some (.int .i64 a1_0) := (blk_cell BK267.out 0).trans rfl; have hcz31_1 : w30.cell? ⟨gb267, 1, none⟩ = some (.int .i64 a1_1) := (blk_cell BK267.out 1).trans rfl; have hcz31_2 : w30.cell? ⟨gb267, 2, none⟩ = some (.int .i64 a1_2) := (blk_cell BK267.out 2).trans rfl; have hcz31_3 : w30.cell? ⟨gb267, 3, none⟩ = some (.int .i64 a1_3) := (blk_cell BK267.out 3).trans rfl; have hcz31_4 : w30.cell? ⟨gb267, 4, none⟩ = some (.int .i64 a1_4) := (blk_cell BK267.out 4).trans rfl; have hfz31_0 := blk_frozen BK267.out 0; have hfz31_1 := blk_frozen BK267.out 1; have hfz31_2 := blk_frozen BK267.out 2; have hfz31_3 := blk_frozen BK267.out 3; have hfz31_4 := blk_frozen BK267.out 4))
         go_ret3
         exact ⟨by first | rfl | (simp [errW_none, errW_some] <;> rfl) | (simp [*, errW_none, errW_some] <;> rfl), by repeat (first | (with_reducible first | exact HB.out | apply below_alloc | apply pw_below_drewN | apply below_drew1 | refine below_set ?_ GE267.out) | exact HB.out)⟩
        ·rw [if_neg c28] at H
         have c28b0 : decide (a1_4 < t270) = false := decide_eq_false c28
         clear c28
         have H' := Aside0.mk H
         clear H
         have hcz32_0 : wc.cell? ⟨gb267, 0, none⟩ = some (.int .i64 a1_0) := (blk_cell BK267.out 0).trans rfl
         have hcz32_1 : wc.cell? ⟨gb267, 1, none⟩ = some (.int .i64 a1_1) := (blk_cell BK267.out 1).trans rfl
         have hcz32_2 : wc.cell? ⟨gb267, 2, none⟩ = some (.int .i64 a1_2) := (blk_cell BK267.out 2).trans rfl
         have hcz32_3 : wc.cell? ⟨gb267, 3, none⟩ = some (.int .i64 a1_3) := (blk_cell BK267.out 3).trans rfl
         have hcz32_4 : wc.cell? ⟨gb267, 4, none⟩ = some (.int .i64 a1_4) := (blk_cell BK267.out 4).trans rfl
         have hfz32_0 := blk_frozen BK267.out 0
         have hfz32_1 := blk_frozen BK267.out 1
         have hfz32_2 := blk_frozen BK267.out 2
         have hfz32_3 := blk_frozen BK267.out 3
         have hfz32_4 := blk_frozen BK267.out 4
         go_wp2_with (first | ((with_reducible refine gate_callee (f := 40) rfl ?_); refine goesL_ (some 51) rfl rfl Try.func40 (by kernel_rfl) rfl #[.int .i64 a0, .int .i64 a1_2, .string a2, .int .i64 a3] rfl (by (try simp only [List.map_toArray, List.map_cons, List.map_nil]); first | done | rfl | (simp only [List.length_drop, List.length_take]; rfl)) ?_; (with_reducible refine (prefix_Get.calls kj4 a0 a1_2 a2 a3 t270 t271 t272 _ A22.out).mono ?_); rintro e w33 ⟨rfl, hb⟩; refine ⟨_, rfl, ?_⟩; have n0_ := Aside0.mk (blk_below (g := gb267) (o := .cells #[.int .i64 a1_0, .int .i64 a1_1, .int .i64 a1_2, .int .i64 a1_3, .int .i64 a1_4] 23 (0, 0)) (by (with_reducible repeat (first | refine blk_drewN ?_ _ | refine blk_drew ?_ | refine blk_alloc ?_ _)); exact BK267.out) hb); have n1_ := Aside0.mk (below_step (by repeat (first | (with_reducible first | exact HB.out | apply below_alloc | apply pw_below_drewN | apply below_drew1 | refine below_set ?_ GE267.out) | exact HB.out)) hb); clear BK267; clear HB; have BK267 := n0_; have HB := n1_; clear n0_ n1_; (try clear hb); (try clear hb2); (try clear hk); (try clear hi); have hcz34_0 : w33.cell? ⟨gb267, 0, none⟩ = some (.int .i64 a1_0) := (blk_cell BK267.out 0).trans rfl; have hcz34_1 : w33.cell? ⟨gb267, 1, none⟩ = some (.int .i64 a1_1) := (blk_cell BK267.out 1).trans rfl; have hcz34_2 : w33.cell? ⟨gb267, 2, none⟩ = some (.int .i64 a1_2) := (blk_cell BK267.out 2).trans rfl; have hcz34_3 : w33.cell? ⟨gb267, 3, none⟩ = some (.int .i64 a1_3) := (blk_cell BK267.out 3).trans rfl; have hcz34_4 : w33.cell? ⟨gb267, 4, none⟩ = some (.int .i64 a1_4) := (blk_cell BK267.out 4).trans rfl; have hfz34_0 := blk_frozen BK267.out 0; have hfz34_1 := blk_frozen BK267.out 1; have hfz34_2 := blk_frozen BK267.out 2; have hfz34_3 := blk_frozen BK267.out 3; have hfz34_4 := blk_frozen BK267.out 4))
         go_meet
         case rel => exact ⟨_, (t271), (t270), (by first | rfl | (simp; done) | (simp [*]; done) | (simp [wrap64]; done)), (by first | rfl | (simp; done) | (simp [*]; done) | (simp [wrap64]; done)), H', ⟨by have := HJ4.out; first | omega | exact Nat.le_refl _⟩, ⟨by (with_reducible repeat (first | refine blk_drewN ?_ _ | refine blk_drew ?_ | refine blk_alloc ?_ _)); exact BK267.out⟩, ⟨by repeat (first | (with_reducible first | exact HB.out | apply below_alloc | apply pw_below_drewN | apply below_drew1 | refine below_set ?_ GE267.out) | exact HB.out)⟩⟩
      ·rw [if_neg c23] at H
       have c23b0 : (t272 == 0) = false := beq_eq_false_iff_ne.mpr c23
       have c23b1 : (t272 != 0) = true := bne_iff_ne.mpr c23
       simp only [Option.some.injEq, Prod.mk.injEq] at H
       obtain ⟨rfl, rfl, rfl⟩ := H
       have hcz35_0 : wc.cell? ⟨gb267, 0, none⟩ = some (.int .i64 a1_0) := (blk_cell BK267.out 0).trans rfl
       have hcz35_1 : wc.cell? ⟨gb267, 1, none⟩ = some (.int .i64 a1_1) := (blk_cell BK267.out 1).trans rfl
       have hcz35_2 : wc.cell? ⟨gb267, 2, none⟩ = some (.int .i64 a1_2) := (blk_cell BK267.out 2).trans rfl
       have hcz35_3 : wc.cell? ⟨gb267, 3, none⟩ = some (.int .i64 a1_3) := (blk_cell BK267.out 3).trans rfl
       have hcz35_4 : wc.cell? ⟨gb267, 4, none⟩ = some (.int .i64 a1_4) := (blk_cell BK267.out 4).trans rfl
       have hfz35_0 := blk_frozen BK267.out 0
       have hfz35_1 := blk_frozen BK267.out 1
       have hfz35_2 := blk_frozen BK267.out 2
       have hfz35_3 := blk_frozen BK267.out 3
       have hfz35_4 := blk_frozen BK267.out 4
       go_wp2_with (first | ((with_reducible refine gate_callee (f := 40) rfl ?_); refine goesL_ (some 51) rfl rfl Try.func40 (by kernel_rfl) rfl #[.int .i64 a0, .int .i64 a1_2, .string a2, .int .i64 a3] rfl (by (try simp only [List.map_toArray, List.map_cons, List.map_nil]); first | done | rfl | (simp only [List.length_drop, List.length_take]; rfl)) ?_; (with_reducible refine (prefix_Get.calls kj4 a0 a1_2 a2 a3 t270 t271 t272 _ A22.out).mono ?_); rintro e w36 ⟨rfl, hb⟩; refine ⟨_, rfl, ?_⟩; have n0_ := Aside0.mk (blk_below (g := gb267) (o := .cells #[.int .i64 a1_0, .int .i64 a1_1, .int .i64 a1_2, .int .i64 a1_3, .int .i64 a1_4] 23 (0, 0)) (by (with_reducible repeat (first | refine blk_drewN ?_ _ | refine blk_drew ?_ | refine blk_alloc ?_ _)); exact BK267.out) hb); have n1_ := Aside0.mk (below_step (by repeat (first | (with_reducible first | exact HB.out | apply below_alloc | apply pw_below_drewN | apply below_drew1 | refine below_set ?_ GE267.out) | exact HB.out)) hb); clear BK267; clear HB; have BK267 := n0_; have HB := n1_; clear n0_ n1_; (try clear hb); (try clear hb2); (try clear hk); (try clear hi)))
       go_ret3
       exact ⟨by first | rfl | (simp [errW_none, errW_some] <;> rfl) | (simp [*, errW_none, errW_some] <;> rfl), by repeat (first | (with_reducible first | exact HB.out | apply below_alloc | apply pw_below_drewN | apply below_drew1 | refine below_set ?_ GE267.out) | exact HB.out)⟩
    case rest =>
     clear HC19
     try clear c1
     try clear c2
     try clear p2
     try clear c3
     try clear c4
     try clear p6
     try clear c8
     try clear c10
     try clear c10b0
     try clear c10b1
     try clear c11
     try clear c11b0
     try clear c18
     try clear c21
     try clear c21b0
     try clear c21b1
     try clear c23
     try clear c23b0
     try clear c23b1
     try clear c24
     try clear c24b0
     try clear c28
     try clear c28b0
     try clear c33
     try clear hcz12_0
     try clear hcz12_1
     try clear hcz12_2
     try clear hcz12_3
     try clear hcz12_4
     try clear hcz14_0
     try clear hcz14_1
     try clear hcz14_2
     try clear hcz14_3
     try clear hcz14_4
     try clear hcz16_0
     try clear hcz16_1
     try clear hcz16_2
     try clear hcz16_3
     try clear hcz16_4
     try clear hcz20_0
     try clear hcz20_1
     try clear hcz20_2
     try clear hcz20_3
     try clear hcz20_4
     try clear hcz25_0
     try clear hcz25_1
     try clear hcz25_2
     try clear hcz25_3
     try clear hcz25_4
     try clear hcz27_0
     try clear hcz27_1
     try clear hcz27_2
     try clear hcz27_3
     try clear hcz27_4
     try clear hcz29_0
     try clear hcz29_1
     try clear hcz29_2
     try clear hcz29_3
     try clear hcz29_4
     try clear hcz31_0
     try clear hcz31_1
     try clear hcz31_2
     try clear hcz31_3
     try clear hcz31_4
     try clear hcz32_0
     try clear hcz32_1
     try clear hcz32_2
     try clear hcz32_3
     try clear hcz32_4
     try clear hcz34_0
     try clear hcz34_1
     try clear hcz34_2
     try clear hcz34_3
     try clear hcz34_4
     try clear hcz35_0
     try clear hcz35_1
     try clear hcz35_2
     try clear hcz35_3
     try clear hcz35_4
     try clear hfz12_0
     try clear hfz12_1
     try clear hfz12_2
     try clear hfz12_3
     try clear hfz12_4
     try clear hfz14_0
     try clear hfz14_1
     try clear hfz14_2
     try clear hfz14_3
     try clear hfz14_4
     try clear hfz16_0
     try clear hfz16_1
     try clear hfz16_2
     try clear hfz16_3
     try clear hfz16_4
     try clear hfz20_0
     try clear hfz20_1
     try clear hfz20_2
     try clear hfz20_3
     try clear hfz20_4
     try clear hfz25_0
     try clear hfz25_1
     try clear hfz25_2
     try clear hfz25_3
     try clear hfz25_4
     try clear hfz27_0
     try clear hfz27_1
     try clear hfz27_2
     try clear hfz27_3
     try clear hfz27_4
     try clear hfz29_0
     try clear hfz29_1
     try clear hfz29_2
     try clear hfz29_3
     try clear hfz29_4
     try clear hfz31_0
     try clear hfz31_1
     try clear hfz31_2
     try clear hfz31_3
     try clear hfz31_4
     try clear hfz32_0
     try clear hfz32_1
     try clear hfz32_2
     try clear hfz32_3
     try clear hfz32_4
     try clear hfz34_0
     try clear hfz34_1
     try clear hfz34_2
     try clear hfz34_3
     try clear hfz34_4
     try clear hfz35_0
     try clear hfz35_1
     try clear hfz35_2
     try clear hfz35_3
     try clear hfz35_4
     try clear p2
     try clear p6
     obtain ⟨kq, x3_18, x11_18, rfl, rfl, HA, HJ18, BK267, HB⟩ := hcut
     cases kq with
     | zero => exact absurd HA.out (by simp [cell_Get.j1])
     | succ kj18 =>
      have H := HA.out
      clear HA
      simp only [cell_Get.j1] at H
      replace H := Option.bind_eq_some_iff.mp H
      obtain ⟨t273, A370, H⟩ := H
      replace H : (if t273 = 1 then ((bcd_Size.f x11_18).bind fun t274 => (cell_Get.j2 kj18 a0 a2 x3_18 x11_18 t274 a1_0 a1_1 a1_2 a1_3 a1_4)) else (if t273 = 2 then (cell_Get.j2 kj18 a0 a2 x3_18 x11_18 (wrap64 (2 * x11_18)) a1_0 a1_1 a1_2 a1_3 a1_4) else (cell_Get.j2 kj18 a0 a2 x3_18 x11_18 x11_18 a1_0 a1_1 a1_2 a1_3 a1_4))) = some (r1, r2, r3) := H
      have A37 := Aside0.mk A370
      clear A370
      have HC38 := Aside0.mk H
      clear H
      have hcz39_0 : wc.cell? ⟨gb267, 0, none⟩ = some (.int .i64 a1_0) := (blk_cell BK267.out 0).trans rfl
      have hcz39_1 : wc.cell? ⟨gb267, 1, none⟩ = some (.int .i64 a1_1) := (blk_cell BK267.out 1).trans rfl
      have hcz39_2 : wc.cell? ⟨gb267, 2, none⟩ = some (.int .i64 a1_2) := (blk_cell BK267.out 2).trans rfl
      have hcz39_3 : wc.cell? ⟨gb267, 3, none⟩ = some (.int .i64 a1_3) := (blk_cell BK267.out 3).trans rfl
      have hcz39_4 : wc.cell? ⟨gb267, 4, none⟩ = some (.int .i64 a1_4) := (blk_cell BK267.out 4).trans rfl
      have hfz39_0 := blk_frozen BK267.out 0
      have hfz39_1 := blk_frozen BK267.out 1
      have hfz39_2 := blk_frozen BK267.out 2
      have hfz39_3 := blk_frozen BK267.out 3
      have hfz39_4 := blk_frozen BK267.out 4
      go_upto_block 0 with (first | ((with_reducible refine gate_callee (f := 35) rfl ?_); refine goesL_ (some 72) rfl rfl Try.func35 (by kernel_rfl) rfl #[.int .i64 a0, .int .i64 a1_1] rfl (by (try simp only [List.map_toArray, List.map_cons, List.map_nil]); first | done | rfl | (simp only [List.length_drop, List.length_take]; rfl)) ?_; (with_reducible refine (cell_how.calls kj18 a0 a1_1 t273 _ A37.out).mono ?_); rintro e w' ⟨rfl, ⟨nd, rfl⟩⟩; refine ⟨_, rfl, ?_⟩))
      (try simp only [Act.put, List.setIfInBounds_toArray, List.set_cons_zero, List.set_cons_succ])
      go_cut [13] (fun v13 wc => ∃ (kq : Nat) (x13_37 : Int), v13 = .int .i64 x13_37 ∧ Aside0 (cell_Get.j2 kq a0 a2 x3_18 x11_18 x13_37 a1_0 a1_1 a1_2 a1_3 a1_4 = some (r1, r2, r3)) ∧ Aside0 (kq ≤ kj18) ∧ Aside0 (wc.heap[gb267]? = some (.cells #[.int .i64 a1_0, .int .i64 a1_1, .int .i64 a1_2, .int .i64 a1_3, .int .i64 a1_4] 23 (0, 0))) ∧ Aside0 (Below w.heap.size w wc))
      case first =>
       have H := HC38.out
       clear HC38
       by_cases c40 : t273 = 1
       ·rw [if_pos c40] at H
        have c40b0 : (t273 == 1) = true := beq_iff_eq.mpr c40
        have c40b1 : (t273 != 1) = false := bne_eq_false_iff_eq.mpr c40
        clear c40
        (first | rw [c40b0] | (simp only [i64_w, i32_w]; rw [c40b0]) | skip)
        replace H := Option.bind_eq_some_iff.mp H
        obtain ⟨t274, A410, H⟩ := H
        replace H : (cell_Get.j2 kj18 a0 a2 x3_18 x11_18 t274 a1_0 a1_1 a1_2 a1_3 a1_4) = some (r1, r2, r3) := H
        have A41 := Aside0.mk A410
        clear A410
        have H' := Aside0.mk H
        clear H
        go_wp2_with (first | ((with_reducible refine gate_callee (f := 41) rfl ?_); refine goesL_ (some 76) rfl rfl Try.func41 (by kernel_rfl) rfl #[.int .i64 x11_18] rfl (by (try simp only [List.map_toArray, List.map_cons, List.map_nil]); first | done | rfl | (simp only [List.length_drop, List.length_take]; rfl)) ?_; (with_reducible refine (bcd_Size.calls x11_18 t274 _ A41.out).mono ?_); rintro e w' ⟨rfl, ⟨nd, rfl⟩⟩; refine ⟨_, rfl, ?_⟩))
        go_meet
        case rel => exact ⟨_, (t274), (by first | rfl | (simp; done) | (simp [*]; done) | (simp [wrap64]; done)), H', ⟨by have := HJ4.out; have := HJ18.out; first | omega | exact Nat.le_refl _⟩, ⟨by (with_reducible repeat (first | refine blk_drewN ?_ _ | refine blk_drew ?_ | refine blk_alloc ?_ _)); exact BK267.out⟩, ⟨by repeat (first | (with_reducible first | exact HB.out | apply below_alloc | apply pw_below_drewN | apply below_drew1 | refine below_set ?_ GE267.out) | exact HB.out)⟩⟩
       ·rw [if_neg c40] at H
        have c40b0 : (t273 == 1) = false := beq_eq_false_iff_ne.mpr c40
        have c40b1 : (t273 != 1) = true := bne_iff_ne.mpr c40
        (first | rw [c40b0] | (simp only [i64_w, i32_w]; rw [c40b0]) | skip)
        by_cases c42 : t273 = 2
        ·rw [if_pos c42] at H
         have c42b0 : (t273 == 2) = true := beq_iff_eq.mpr c42
         have c42b1 : (t273 != 2) = false := bne_eq_false_iff_eq.mpr c42
         clear c42
         have H' := Aside0.mk H
         clear H
         go_wp2
         go_meet
         case rel => exact ⟨_, (wrap64 (2 * x11_18)), (by first | rfl | (simp; done) | (simp [*]; done) | (simp [wrap64]; done)), H', ⟨by have := HJ4.out; have := HJ18.out; first | omega | exact Nat.le_refl _⟩, ⟨by (with_reducible repeat (first | refine blk_drewN ?_ _ | refine blk_drew ?_ | refine blk_alloc ?_ _)); exact BK267.out⟩, ⟨by repeat (first | (with_reducible first | exact HB.out | apply below_alloc | apply pw_below_drewN | apply below_drew1 | refine below_set ?_ GE267.out) | exact HB.out)⟩⟩
        ·rw [if_neg c42] at H
         have c42b0 : (t273 == 2) = false := beq_eq_false_iff_ne.mpr c42
         have c42b1 : (t273 != 2) = true := bne_iff_ne.mpr c42
         have H' := Aside0.mk H
         clear H
         go_wp2
         go_meet
         case rel => exact ⟨_, (x11_18), (by first | rfl | (simp; done) | (simp [*]; done) | (simp [wrap64]; done)), H', ⟨by have := HJ4.out; have := HJ18.out; first | omega | exact Nat.le_refl _⟩, ⟨by (with_reducible repeat (first | refine blk_drewN ?_ _ | refine blk_drew ?_ | refine blk_alloc ?_ _)); exact BK267.out⟩, ⟨by repeat (first | (with_reducible first | exact HB.out | apply below_alloc | apply pw_below_drewN | apply below_drew1 | refine below_set ?_ GE267.out) | exact HB.out)⟩⟩
      case rest =>
       clear HC38
       try clear c1
       try clear c2
       try clear p2
       try clear c3
       try clear c4
       try clear p6
       try clear c8
       try clear c10
       try clear c10b0
       try clear c10b1
       try clear c11
       try clear c11b0
       try clear c18
       try clear c21
       try clear c21b0
       try clear c21b1
       try clear c23
       try clear c23b0
       try clear c23b1
       try clear c24
       try clear c24b0
       try clear c28
       try clear c28b0
       try clear c33
       try clear c35
       try clear c40
       try clear c40b0
       try clear c40b1
       try clear c41
       try clear c42
       try clear c42b0
       try clear c42b1
       try clear hcz12_0
       try clear hcz12_1
       try clear hcz12_2
       try clear hcz12_3
       try clear hcz12_4
       try clear hcz14_0
       try clear hcz14_1
       try clear hcz14_2
       try clear hcz14_3
       try clear hcz14_4
       try clear hcz16_0
       try clear hcz16_1
       try clear hcz16_2
       try clear hcz16_3
       try clear hcz16_4
       try clear hcz20_0
       try clear hcz20_1
       try clear hcz20_2
       try clear hcz20_3
       try clear hcz20_4
       try clear hcz25_0
       try clear hcz25_1
       try clear hcz25_2
       try clear hcz25_3
       try clear hcz25_4
       try clear hcz27_0
       try clear hcz27_1
       try clear hcz27_2
       try clear hcz27_3
       try clear hcz27_4
       try clear hcz29_0
       try clear hcz29_1
       try clear hcz29_2
       try clear hcz29_3
       try clear hcz29_4
       try clear hcz31_0
       try clear hcz31_1
       try clear hcz31_2
       try clear hcz31_3
       try clear hcz31_4
       try clear hcz32_0
       try clear hcz32_1
       try clear hcz32_2
       try clear hcz32_3
       try clear hcz32_4
       try clear hcz34_0
       try clear hcz34_1
       try clear hcz34_2
       try clear hcz34_3
       try clear hcz34_4
       try clear hcz35_0
       try clear hcz35_1
       try clear hcz35_2
       try clear hcz35_3
       try clear hcz35_4
       try clear hcz39_0
       try clear hcz39_1
       try clear hcz39_2
       try clear hcz39_3
       try clear hcz39_4
       try clear hfz12_0
       try clear hfz12_1
       try clear hfz12_2
       try clear hfz12_3
       try clear hfz12_4
       try clear hfz14_0
       try clear hfz14_1
       try clear hfz14_2
       try clear hfz14_3
       try clear hfz14_4
       try clear hfz16_0
       try clear hfz16_1
       try clear hfz16_2
       try clear hfz16_3
       try clear hfz16_4
       try clear hfz20_0
       try clear hfz20_1
       try clear hfz20_2
       try clear hfz20_3
       try clear hfz20_4
       try clear hfz25_0
       try clear hfz25_1
       try clear hfz25_2
       try clear hfz25_3
       try clear hfz25_4
       try clear hfz27_0
       try clear hfz27_1
       try clear hfz27_2
       try clear hfz27_3
       try clear hfz27_4
       try clear hfz29_0
       try clear hfz29_1
       try clear hfz29_2
       try clear hfz29_3
       try clear hfz29_4
       try clear hfz31_0
       try clear hfz31_1
       try clear hfz31_2
       try clear hfz31_3
       try clear hfz31_4
       try clear hfz32_0
       try clear hfz32_1
       try clear hfz32_2
       try clear hfz32_3
       try clear hfz32_4
       try clear hfz34_0
       try clear hfz34_1
       try clear hfz34_2
       try clear hfz34_3
       try clear hfz34_4
       try clear hfz35_0
       try clear hfz35_1
       try clear hfz35_2
       try clear hfz35_3
       try clear hfz35_4
       try clear hfz39_0
       try clear hfz39_1
       try clear hfz39_2
       try clear hfz39_3
       try clear hfz39_4
       try clear p2
       try clear p6
       obtain ⟨kq, x13_37, rfl, HA, HJ37, BK267, HB⟩ := hcut
       cases kq with
       | zero => exact absurd HA.out (by simp [cell_Get.j2])
       | succ kj37 =>
        have H := HA.out
        clear HA
        simp only [cell_Get.j2] at H
        by_cases c43 : (wrap64 ((a2.size : Int) - x3_18)) < x13_37
        ·rw [if_pos c43] at H
         have c43b0 : decide ((wrap64 ((a2.size : Int) - x3_18)) < x13_37) = true := decide_eq_true c43
         clear c43
         simp only [Option.some.injEq, Prod.mk.injEq] at H
         obtain ⟨rfl, rfl, rfl⟩ := H
         go_wp2
         go_ret3
         exact ⟨by first | rfl | (simp [errW_none, errW_some] <;> rfl) | (simp [*, errW_none, errW_some] <;> rfl), by repeat (first | (with_reducible first | exact HB.out | apply below_alloc | apply pw_below_drewN | apply below_drew1 | refine below_set ?_ GE267.out) | exact HB.out)⟩
        ·rw [if_neg c43] at H
         have c43b0 : decide ((wrap64 ((a2.size : Int) - x3_18)) < x13_37) = false := decide_eq_false c43
         clear c43
         by_cases c44 : 0 ≤ x3_18
         ·rw [if_pos c44] at H
          have c44b0 := eq_true c44
          have c44b1 : decide (0 ≤ x3_18) = true := decide_eq_true c44
          clear c44
          by_cases c45 : x3_18 ≤ (wrap64 (x3_18 + x13_37))
          ·rw [if_pos c45] at H
           have c45b0 := eq_true c45
           have c45b1 : decide (x3_18 ≤ (wrap64 (x3_18 + x13_37))) = true := decide_eq_true c45
           by_cases c46 : (wrap64 (x3_18 + x13_37)) ≤ (a2.size : Int)
           ·rw [if_pos c46] at H
            have c46b0 := eq_true c46
            have c46b1 : decide ((wrap64 (x3_18 + x13_37)) ≤ (a2.size : Int)) = true := decide_eq_true c46
            replace H := Option.bind_eq_some_iff.mp H
            obtain ⟨t275, A470, H⟩ := H
            replace H : (if t275 = 1 then ((bcd_Get.f kj37 (a2.extract (x3_18 : Int).toNat ((wrap64 (x3_18 + x13_37)) : Int).toNat) x11_18).bind fun bt276 => (if bt276.2.1 = 0 then ((spec_Value.f kj37 a1_0 a1_1 a1_2 a1_3 a1_4 bt276.1).bind fun t279 => (if t279 = 0 then (some (bt276.1, wrap64 (x3_18 + x13_37), 0)) else (some ((⟨#[]⟩ : ByteArray), 0, t279)))) else (some ((⟨#[]⟩ : ByteArray), 0, bt276.2.1)))) else (if t275 = 2 then ((hexa_Get.f kj37 (a2.extract (x3_18 : Int).toNat ((wrap64 (x3_18 + x13_37)) : Int).toNat)).bind fun bt280 => (if bt280.2.2 = true then ((spec_Value.f kj37 a1_0 a1_1 a1_2 a1_3 a1_4 bt280.1).bind fun t283 => (if t283 = 0 then (some (bt280.1, wrap64 (x3_18 + x13_37), 0)) else (some ((⟨#[]⟩ : ByteArray), 0, t283)))) else (some ((⟨#[]⟩ : ByteArray), 0, 3)))) else ((spec_Value.f kj37 a1_0 a1_1 a1_2 a1_3 a1_4 (a2.extract (x3_18 : Int).toNat ((wrap64 (x3_18 + x13_37)) : Int).toNat)).bind fun t284 => (if t284 = 0 then (some (a2.extract (x3_18 : Int).toNat ((wrap64 (x3_18 + x13_37)) : Int).toNat, wrap64 (x3_18 + x13_37), 0)) else (some ((⟨#[]⟩ : ByteArray), 0, t284)))))) = some (r1, r2, r3) := H
            have A47 := Aside0.mk A470
            clear A470
            by_cases c48 : t275 = 1
            ·rw [if_pos c48] at H
             have c48b0 : (t275 == 1) = true := beq_iff_eq.mpr c48
             have c48b1 : (t275 != 1) = false := bne_eq_false_iff_eq.mpr c48
             clear c48
             replace H := Option.bind_eq_some_iff.mp H
             obtain ⟨⟨t276, t277, t278⟩, A490, H⟩ := H
             replace H : (if t277 = 0 then ((spec_Value.f kj37 a1_0 a1_1 a1_2 a1_3 a1_4 t276).bind fun t279 => (if t279 = 0 then (some (t276, wrap64 (x3_18 + x13_37), 0)) else (some ((⟨#[]⟩ : ByteArray), 0, t279)))) else (some ((⟨#[]⟩ : ByteArray), 0, t277))) = some (r1, r2, r3) := H
             have A49 := Aside0.mk A490
             clear A490
             by_cases c50 : t277 = 0
             ·rw [if_pos c50] at H
              have c50b0 : (t277 == 0) = true := beq_iff_eq.mpr c50
              have c50b1 : (t277 != 0) = false := bne_eq_false_iff_eq.mpr c50
              clear c50
              replace H := Option.bind_eq_some_iff.mp H
              obtain ⟨t279, A510, H⟩ := H
              replace H : (if t279 = 0 then (some (t276, wrap64 (x3_18 + x13_37), 0)) else (some ((⟨#[]⟩ : ByteArray), 0, t279))) = some (r1, r2, r3) := H
              have A51 := Aside0.mk A510
              clear A510
              by_cases c52 : t279 = 0
              ·rw [if_pos c52] at H
               have c52b0 : (t279 == 0) = true := beq_iff_eq.mpr c52
               have c52b1 : (t279 != 0) = false := bne_eq_false_iff_eq.mpr c52
               clear c52
               simp only [Option.some.injEq, Prod.mk.injEq] at H
               obtain ⟨rfl, rfl, rfl⟩ := H
               have hcz53_0 : wc.cell? ⟨gb267, 0, none⟩ = some (.int .i64 a1_0) := (blk_cell BK267.out 0).trans rfl
               have hcz53_1 : wc.cell? ⟨gb267, 1, none⟩ = some (.int .i64 a1_1) := (blk_cell BK267.out 1).trans rfl
               have hcz53_2 : wc.cell? ⟨gb267, 2, none⟩ = some (.int .i64 a1_2) := (blk_cell BK267.out 2).trans rfl
               have hcz53_3 : wc.cell? ⟨gb267, 3, none⟩ = some (.int .i64 a1_3) := (blk_cell BK267.out 3).trans rfl
               have hcz53_4 : wc.cell? ⟨gb267, 4, none⟩ = some (.int .i64 a1_4) := (blk_cell BK267.out 4).trans rfl
               have hfz53_0 := blk_frozen BK267.out 0
               have hfz53_1 := blk_frozen BK267.out 1
               have hfz53_2 := blk_frozen BK267.out 2
               have hfz53_3 := blk_frozen BK267.out 3
               have hfz53_4 := blk_frozen BK267.out 4
               go_wp2_with (first | ((with_reducible refine gate_callee (f := 35) rfl ?_); refine goesL_ (some 96) rfl rfl Try.func35 (by kernel_rfl) rfl #[.int .i64 a0, .int .i64 a1_1] rfl (by (try simp only [List.map_toArray, List.map_cons, List.map_nil]); first | done | rfl | (simp only [List.length_drop, List.length_take]; rfl)) ?_; (with_reducible refine (cell_how.calls kj37 a0 a1_1 t275 _ A47.out).mono ?_); rintro e w' ⟨rfl, ⟨nd, rfl⟩⟩; refine ⟨_, rfl, ?_⟩) | ((with_reducible refine gate_callee (f := 42) rfl ?_); refine goesL_ (some 102) rfl rfl Try.func42 (by kernel_rfl) rfl #[.string (a2.extract (x3_18 : Int).toNat ((wrap64 (x3_18 + x13_37)) : Int).toNat), .int .i64 x11_18] rfl (by (try simp only [List.map_toArray, List.map_cons, List.map_nil]); first | done | rfl | (simp only [List.length_drop, List.length_take]; rfl)) ?_; (with_reducible refine (bcd_Get.calls kj37 (a2.extract (x3_18 : Int).toNat ((wrap64 (x3_18 + x13_37)) : Int).toNat) x11_18 t276 t277 t278 _ A49.out).mono ?_); rintro e w54 ⟨rfl, hb⟩; refine ⟨_, rfl, ?_⟩; have n0_ := Aside0.mk (blk_below (g := gb267) (o := .cells #[.int .i64 a1_0, .int .i64 a1_1, .int .i64 a1_2, .int .i64 a1_3, .int .i64 a1_4] 23 (0, 0)) (by (with_reducible repeat (first | refine blk_drewN ?_ _ | refine blk_drew ?_ | refine blk_alloc ?_ _)); exact BK267.out) hb); have n1_ := Aside0.mk (below_step (by repeat (first | (with_reducible first | exact HB.out | apply below_alloc | apply pw_below_drewN | apply below_drew1 | refine below_set ?_ GE267.out) | exact HB.out)) hb); clear BK267; clear HB; have BK267 := n0_; have HB := n1_; clear n0_ n1_; (try clear hb); (try clear hb2); (try clear hk); (try clear hi); have hcz55_0 : w54.cell? ⟨gb267, 0, none⟩ = some (.int .i64 a1_0) := (blk_cell BK267.out 0).trans rfl; have hcz55_1 : w54.cell? ⟨gb267, 1, none⟩ = some (.int .i64 a1_1) := (blk_cell BK267.out 1).trans rfl; have hcz55_2 : w54.cell? ⟨gb267, 2, none⟩ = some (.int .i64 a1_2) := (blk_cell BK267.out 2).trans rfl; have hcz55_3 : w54.cell? ⟨gb267, 3, none⟩ = some (.int .i64 a1_3) := (blk_cell BK267.out 3).trans rfl; have hcz55_4 : w54.cell? ⟨gb267, 4, none⟩ = some (.int .i64 a1_4) := (blk_cell BK267.out 4).trans rfl; have hfz55_0 := blk_frozen BK267.out 0; have hfz55_1 := blk_frozen BK267.out 1; have hfz55_2 := blk_frozen BK267.out 2; have hfz55_3 := blk_frozen BK267.out 3; have hfz55_4 := blk_frozen BK267.out 4) | ((with_reducible refine gate_callee (f := 16) rfl ?_); refine goesL_ (some 123) rfl rfl Try.func16 (by kernel_rfl) rfl #[.agg #[.int .i64 a1_0, .int .i64 a1_1, .int .i64 a1_2, .int .i64 a1_3, .int .i64 a1_4], .string t276] rfl (by (try simp only [List.map_toArray, List.map_cons, List.map_nil]); first | done | rfl | (simp only [List.length_drop, List.length_take]; rfl)) ?_; (with_reducible refine (spec_Value.calls kj37 a1_0 a1_1 a1_2 a1_3 a1_4 t276 t279 _ A51.out).mono ?_); rintro e w56 ⟨rfl, hb⟩; refine ⟨_, rfl, ?_⟩; have n0_ := Aside0.mk (blk_below (g := gb267) (o := .cells #[.int .i64 a1_0, .int .i64 a1_1, .int .i64 a1_2, .int .i64 a1_3, .int .i64 a1_4] 23 (0, 0)) (by (with_reducible repeat (first | refine blk_drewN ?_ _ | refine blk_drew ?_ | refine blk_alloc ?_ _)); exact BK267.out) hb); have n1_ := Aside0.mk (below_step (by repeat (first | (with_reducible first | exact HB.out | apply below_alloc | apply pw_below_drewN | apply below_drew1 | refine below_set ?_ GE267.out) | exact HB.out)) hb); clear BK267; clear HB; have BK267 := n0_; have HB := n1_; clear n0_ n1_; (try clear hb); (try clear hb2); (try clear hk); (try clear hi)))
               go_ret3
               exact ⟨by first | rfl | (simp [errW_none, errW_some] <;> rfl) | (simp [*, errW_none, errW_some] <;> rfl), by repeat (first | (with_reducible first | exact HB.out | apply below_alloc | apply pw_below_drewN | apply below_drew1 | refine below_set ?_ GE267.out) | exact HB.out)⟩
              ·rw [if_neg c52] at H
               have c52b0 : (t279 == 0) = false := beq_eq_false_iff_ne.mpr c52
               have c52b1 : (t279 != 0) = true := bne_iff_ne.mpr c52
               simp only [Option.some.injEq, Prod.mk.injEq] at H
               obtain ⟨rfl, rfl, rfl⟩ := H
               have hcz57_0 : wc.cell? ⟨gb267, 0, none⟩ = some (.int .i64 a1_0) := (blk_cell BK267.out 0).trans rfl
               have hcz57_1 : wc.cell? ⟨gb267, 1, none⟩ = some (.int .i64 a1_1) := (blk_cell BK267.out 1).trans rfl
               have hcz57_2 : wc.cell? ⟨gb267, 2, none⟩ = some (.int .i64 a1_2) := (blk_cell BK267.out 2).trans rfl
               have hcz57_3 : wc.cell? ⟨gb267, 3, none⟩ = some (.int .i64 a1_3) := (blk_cell BK267.out 3).trans rfl
               have hcz57_4 : wc.cell? ⟨gb267, 4, none⟩ = some (.int .i64 a1_4) := (blk_cell BK267.out 4).trans rfl
               have hfz57_0 := blk_frozen BK267.out 0
               have hfz57_1 := blk_frozen BK267.out 1
               have hfz57_2 := blk_frozen BK267.out 2
               have hfz57_3 := blk_frozen BK267.out 3
               have hfz57_4 := blk_frozen BK267.out 4
               go_wp2_with (first | ((with_reducible refine gate_callee (f := 35) rfl ?_); refine goesL_ (some 96) rfl rfl Try.func35 (by kernel_rfl) rfl #[.int .i64 a0, .int .i64 a1_1] rfl (by (try simp only [List.map_toArray, List.map_cons, List.map_nil]); first | done | rfl | (simp only [List.length_drop, List.length_take]; rfl)) ?_; (with_reducible refine (cell_how.calls kj37 a0 a1_1 t275 _ A47.out).mono ?_); rintro e w' ⟨rfl, ⟨nd, rfl⟩⟩; refine ⟨_, rfl, ?_⟩) | ((with_reducible refine gate_callee (f := 42) rfl ?_); refine goesL_ (some 102) rfl rfl Try.func42 (by kernel_rfl) rfl #[.string (a2.extract (x3_18 : Int).toNat ((wrap64 (x3_18 + x13_37)) : Int).toNat), .int .i64 x11_18] rfl (by (try simp only [List.map_toArray, List.map_cons, List.map_nil]); first | done | rfl | (simp only [List.length_drop, List.length_take]; rfl)) ?_; (with_reducible refine (bcd_Get.calls kj37 (a2.extract (x3_18 : Int).toNat ((wrap64 (x3_18 + x13_37)) : Int).toNat) x11_18 t276 t277 t278 _ A49.out).mono ?_); rintro e w58 ⟨rfl, hb⟩; refine ⟨_, rfl, ?_⟩; have n0_ := Aside0.mk (blk_below (g := gb267) (o := .cells #[.int .i64 a1_0, .int .i64 a1_1, .int .i64 a1_2, .int .i64 a1_3, .int .i64 a1_4] 23 (0, 0)) (by (with_reducible repeat (first | refine blk_drewN ?_ _ | refine blk_drew ?_ | refine blk_alloc ?_ _)); exact BK267.out) hb); have n1_ := Aside0.mk (below_step (by repeat (first | (with_reducible first | exact HB.out | apply below_alloc | apply pw_below_drewN | apply below_drew1 | refine below_set ?_ GE267.out) | exact HB.out)) hb); clear BK267; clear HB; have BK267 := n0_; have HB := n1_; clear n0_ n1_; (try clear hb); (try clear hb2); (try clear hk); (try clear hi); have hcz59_0 : w58.cell? ⟨gb267, 0, none⟩ = some (.int .i64 a1_0) := (blk_cell BK267.out 0).trans rfl; have hcz59_1 : w58.cell? ⟨gb267, 1, none⟩ = some (.int .i64 a1_1) := (blk_cell BK267.out 1).trans rfl; have hcz59_2 : w58.cell? ⟨gb267, 2, none⟩ = some (.int .i64 a1_2) := (blk_cell BK267.out 2).trans rfl; have hcz59_3 : w58.cell? ⟨gb267, 3, none⟩ = some (.int .i64 a1_3) := (blk_cell BK267.out 3).trans rfl; have hcz59_4 : w58.cell? ⟨gb267, 4, none⟩ = some (.int .i64 a1_4) := (blk_cell BK267.out 4).trans rfl; have hfz59_0 := blk_frozen BK267.out 0; have hfz59_1 := blk_frozen BK267.out 1; have hfz59_2 := blk_frozen BK267.out 2; have hfz59_3 := blk_frozen BK267.out 3; have hfz59_4 := blk_frozen BK267.out 4) | ((with_reducible refine gate_callee (f := 16) rfl ?_); refine goesL_ (some 123) rfl rfl Try.func16 (by kernel_rfl) rfl #[.agg #[.int .i64 a1_0, .int .i64 a1_1, .int .i64 a1_2, .int .i64 a1_3, .int .i64 a1_4], .string t276] rfl (by (try simp only [List.map_toArray, List.map_cons, List.map_nil]); first | done | rfl | (simp only [List.length_drop, List.length_take]; rfl)) ?_; (with_reducible refine (spec_Value.calls kj37 a1_0 a1_1 a1_2 a1_3 a1_4 t276 t279 _ A51.out).mono ?_); rintro e w60 ⟨rfl, hb⟩; refine ⟨_, rfl, ?_⟩; have n0_ := Aside0.mk (blk_below (g := gb267) (o := .cells #[.int .i64 a1_0, .int .i64 a1_1, .int .i64 a1_2, .int .i64 a1_3, .int .i64 a1_4] 23 (0, 0)) (by (with_reducible repeat (first | refine blk_drewN ?_ _ | refine blk_drew ?_ | refine blk_alloc ?_ _)); exact BK267.out) hb); have n1_ := Aside0.mk (below_step (by repeat (first | (with_reducible first | exact HB.out | apply below_alloc | apply pw_below_drewN | apply below_drew1 | refine below_set ?_ GE267.out) | exact HB.out)) hb); clear BK267; clear HB; have BK267 := n0_; have HB := n1_; clear n0_ n1_; (try clear hb); (try clear hb2); (try clear hk); (try clear hi)))
               go_ret3
               exact ⟨by first | rfl | (simp [errW_none, errW_some] <;> rfl) | (simp [*, errW_none, errW_some] <;> rfl), by repeat (first | (with_reducible first | exact HB.out | apply below_alloc | apply pw_below_drewN | apply below_drew1 | refine below_set ?_ GE267.out) | exact HB.out)⟩
             ·rw [if_neg c50] at H
              have c50b0 : (t277 == 0) = false := beq_eq_false_iff_ne.mpr c50
              have c50b1 : (t277 != 0) = true := bne_iff_ne.mpr c50
              simp only [Option.some.injEq, Prod.mk.injEq] at H
              obtain ⟨rfl, rfl, rfl⟩ := H
              have hcz61_0 : wc.cell? ⟨gb267, 0, none⟩ = some (.int .i64 a1_0) := (blk_cell BK267.out 0).trans rfl
              have hcz61_1 : wc.cell? ⟨gb267, 1, none⟩ = some (.int .i64 a1_1) := (blk_cell BK267.out 1).trans rfl
              have hcz61_2 : wc.cell? ⟨gb267, 2, none⟩ = some (.int .i64 a1_2) := (blk_cell BK267.out 2).trans rfl
              have hcz61_3 : wc.cell? ⟨gb267, 3, none⟩ = some (.int .i64 a1_3) := (blk_cell BK267.out 3).trans rfl
              have hcz61_4 : wc.cell? ⟨gb267, 4, none⟩ = some (.int .i64 a1_4) := (blk_cell BK267.out 4).trans rfl
              have hfz61_0 := blk_frozen BK267.out 0
              have hfz61_1 := blk_frozen BK267.out 1
              have hfz61_2 := blk_frozen BK267.out 2
              have hfz61_3 := blk_frozen BK267.out 3
              have hfz61_4 := blk_frozen BK267.out 4
              go_wp2_with (first | ((with_reducible refine gate_callee (f := 35) rfl ?_); refine goesL_ (some 96) rfl rfl Try.func35 (by kernel_rfl) rfl #[.int .i64 a0, .int .i64 a1_1] rfl (by (try simp only [List.map_toArray, List.map_cons, List.map_nil]); first | done | rfl | (simp only [List.length_drop, List.length_take]; rfl)) ?_; (with_reducible refine (cell_how.calls kj37 a0 a1_1 t275 _ A47.out).mono ?_); rintro e w' ⟨rfl, ⟨nd, rfl⟩⟩; refine ⟨_, rfl, ?_⟩) | ((with_reducible refine gate_callee (f := 42) rfl ?_); refine goesL_ (some 102) rfl rfl Try.func42 (by kernel_rfl) rfl #[.string (a2.extract (x3_18 : Int).toNat ((wrap64 (x3_18 + x13_37)) : Int).toNat), .int .i64 x11_18] rfl (by (try simp only [List.map_toArray, List.map_cons, List.map_nil]); first | done | rfl | (simp only [List.length_drop, List.length_take]; rfl)) ?_; (with_reducible refine (bcd_Get.calls kj37 (a2.extract (x3_18 : Int).toNat ((wrap64 (x3_18 + x13_37)) : Int).toNat) x11_18 t276 t277 t278 _ A49.out).mono ?_); rintro e w62 ⟨rfl, hb⟩; refine ⟨_, rfl, ?_⟩; have n0_ := Aside0.mk (blk_below (g := gb267) (o := .cells #[.int .i64 a1_0, .int .i64 a1_1, .int .i64 a1_2, .int .i64 a1_3, .int .i64 a1_4] 23 (0, 0)) (by (with_reducible repeat (first | refine blk_drewN ?_ _ | refine blk_drew ?_ | refine blk_alloc ?_ _)); exact BK267.out) hb); have n1_ := Aside0.mk (below_step (by repeat (first | (with_reducible first | exact HB.out | apply below_alloc | apply pw_below_drewN | apply below_drew1 | refine below_set ?_ GE267.out) | exact HB.out)) hb); clear BK267; clear HB; have BK267 := n0_; have HB := n1_; clear n0_ n1_; (try clear hb); (try clear hb2); (try clear hk); (try clear hi)))
              go_ret3
              exact ⟨by first | rfl | (simp [errW_none, errW_some] <;> rfl) | (simp [*, errW_none, errW_some] <;> rfl), by repeat (first | (with_reducible first | exact HB.out | apply below_alloc | apply pw_below_drewN | apply below_drew1 | refine below_set ?_ GE267.out) | exact HB.out)⟩
            ·rw [if_neg c48] at H
             have c48b0 : (t275 == 1) = false := beq_eq_false_iff_ne.mpr c48
             have c48b1 : (t275 != 1) = true := bne_iff_ne.mpr c48
             by_cases c63 : t275 = 2
             ·rw [if_pos c63] at H
              have c63b0 : (t275 == 2) = true := beq_iff_eq.mpr c63
              have c63b1 : (t275 != 2) = false := bne_eq_false_iff_eq.mpr c63
              clear c63
              replace H := Option.bind_eq_some_iff.mp H
              obtain ⟨⟨t280, t281, t282⟩, A640, H⟩ := H
              replace H : (if t282 = true then ((spec_Value.f kj37 a1_0 a1_1 a1_2 a1_3 a1_4 t280).bind fun t283 => (if t283 = 0 then (some (t280, wrap64 (x3_18 + x13_37), 0)) else (some ((⟨#[]⟩ : ByteArray), 0, t283)))) else (some ((⟨#[]⟩ : ByteArray), 0, 3))) = some (r1, r2, r3) := H
              have A64 := Aside0.mk A640
              clear A640
              by_cases c65 : t282 = true
              ·subst c65
               have H1 : ((spec_Value.f kj37 a1_0 a1_1 a1_2 a1_3 a1_4 t280).bind fun t283 => (if t283 = 0 then (some (t280, wrap64 (x3_18 + x13_37), 0)) else (some ((⟨#[]⟩ : ByteArray), 0, t283)))) = some (r1, r2, r3) := by rw [if_pos rfl] at H; exact H
               clear H
               have H := H1
               clear H1
               replace H := Option.bind_eq_some_iff.mp H
               obtain ⟨t283, A660, H⟩ := H
               replace H : (if t283 = 0 then (some (t280, wrap64 (x3_18 + x13_37), 0)) else (some ((⟨#[]⟩ : ByteArray), 0, t283))) = some (r1, r2, r3) := H
               have A66 := Aside0.mk A660
               clear A660
               by_cases c67 : t283 = 0
               ·rw [if_pos c67] at H
                have c67b0 : (t283 == 0) = true := beq_iff_eq.mpr c67
                have c67b1 : (t283 != 0) = false := bne_eq_false_iff_eq.mpr c67
                clear c67
                simp only [Option.some.injEq, Prod.mk.injEq] at H
                obtain ⟨rfl, rfl, rfl⟩ := H
                have hcz68_0 : wc.cell? ⟨gb267, 0, none⟩ = some (.int .i64 a1_0) := (blk_cell BK267.out 0).trans rfl
                have hcz68_1 : wc.cell? ⟨gb267, 1, none⟩ = some (.int .i64 a1_1) := (blk_cell BK267.out 1).trans rfl
                have hcz68_2 : wc.cell? ⟨gb267, 2, none⟩ = some (.int .i64 a1_2) := (blk_cell BK267.out 2).trans rfl
                have hcz68_3 : wc.cell? ⟨gb267, 3, none⟩ = some (.int .i64 a1_3) := (blk_cell BK267.out 3).trans rfl
                have hcz68_4 : wc.cell? ⟨gb267, 4, none⟩ = some (.int .i64 a1_4) := (blk_cell BK267.out 4).trans rfl
                have hfz68_0 := blk_frozen BK267.out 0
                have hfz68_1 := blk_frozen BK267.out 1
                have hfz68_2 := blk_frozen BK267.out 2
                have hfz68_3 := blk_frozen BK267.out 3
                have hfz68_4 := blk_frozen BK267.out 4
                go_wp2_with (first | ((with_reducible refine gate_callee (f := 35) rfl ?_); refine goesL_ (some 96) rfl rfl Try.func35 (by kernel_rfl) rfl #[.int .i64 a0, .int .i64 a1_1] rfl (by (try simp only [List.map_toArray, List.map_cons, List.map_nil]); first | done | rfl | (simp only [List.length_drop, List.length_take]; rfl)) ?_; (with_reducible refine (cell_how.calls kj37 a0 a1_1 t275 _ A47.out).mono ?_); rintro e w' ⟨rfl, ⟨nd, rfl⟩⟩; refine ⟨_, rfl, ?_⟩) | ((with_reducible refine gate_callee (f := 43) rfl ?_); refine goesL_ (some 114) rfl rfl Try.func43 (by kernel_rfl) rfl #[.string (a2.extract (x3_18 : Int).toNat ((wrap64 (x3_18 + x13_37)) : Int).toNat)] rfl (by (try simp only [List.map_toArray, List.map_cons, List.map_nil]); first | done | rfl | (simp only [List.length_drop, List.length_take]; rfl)) ?_; (with_reducible refine (hexa_Get.calls kj37 (a2.extract (x3_18 : Int).toNat ((wrap64 (x3_18 + x13_37)) : Int).toNat) t280 t281 true _ A64.out).mono ?_); rintro e w69 ⟨rfl, hb⟩; refine ⟨_, rfl, ?_⟩; have n0_ := Aside0.mk (blk_below (g := gb267) (o := .cells #[.int .i64 a1_0, .int .i64 a1_1, .int .i64 a1_2, .int .i64 a1_3, .int .i64 a1_4] 23 (0, 0)) (by (with_reducible repeat (first | refine blk_drewN ?_ _ | refine blk_drew ?_ | refine blk_alloc ?_ _)); exact BK267.out) hb); have n1_ := Aside0.mk (below_step (by repeat (first | (with_reducible first | exact HB.out | apply below_alloc | apply pw_below_drewN | apply below_drew1 | refine below_set ?_ GE267.out) | exact HB.out)) hb); clear BK267; clear HB; have BK267 := n0_; have HB := n1_; clear n0_ n1_; (try clear hb); (try clear hb2); (try clear hk); (try clear hi); have hcz70_0 : w69.cell? ⟨gb267, 0, none⟩ = some (.int .i64 a1_0) := (blk_cell BK267.out 0).trans rfl; have hcz70_1 : w69.cell? ⟨gb267, 1, none⟩ = some (.int .i64 a1_1) := (blk_cell BK267.out 1).trans rfl; have hcz70_2 : w69.cell? ⟨gb267, 2, none⟩ = some (.int .i64 a1_2) := (blk_cell BK267.out 2).trans rfl; have hcz70_3 : w69.cell? ⟨gb267, 3, none⟩ = some (.int .i64 a1_3) := (blk_cell BK267.out 3).trans rfl; have hcz70_4 : w69.cell? ⟨gb267, 4, none⟩ = some (.int .i64 a1_4) := (blk_cell BK267.out 4).trans rfl; have hfz70_0 := blk_frozen BK267.out 0; have hfz70_1 := blk_frozen BK267.out 1; have hfz70_2 := blk_frozen BK267.out 2; have hfz70_3 := blk_frozen BK267.out 3; have hfz70_4 := blk_frozen BK267.out 4) | ((with_reducible refine gate_callee (f := 16) rfl ?_); refine goesL_ (some 123) rfl rfl Try.func16 (by kernel_rfl) rfl #[.agg #[.int .i64 a1_0, .int .i64 a1_1, .int .i64 a1_2, .int .i64 a1_3, .int .i64 a1_4], .string t280] rfl (by (try simp only [List.map_toArray, List.map_cons, List.map_nil]); first | done | rfl | (simp only [List.length_drop, List.length_take]; rfl)) ?_; (with_reducible refine (spec_Value.calls kj37 a1_0 a1_1 a1_2 a1_3 a1_4 t280 t283 _ A66.out).mono ?_); rintro e w71 ⟨rfl, hb⟩; refine ⟨_, rfl, ?_⟩; have n0_ := Aside0.mk (blk_below (g := gb267) (o := .cells #[.int .i64 a1_0, .int .i64 a1_1, .int .i64 a1_2, .int .i64 a1_3, .int .i64 a1_4] 23 (0, 0)) (by (with_reducible repeat (first | refine blk_drewN ?_ _ | refine blk_drew ?_ | refine blk_alloc ?_ _)); exact BK267.out) hb); have n1_ := Aside0.mk (below_step (by repeat (first | (with_reducible first | exact HB.out | apply below_alloc | apply pw_below_drewN | apply below_drew1 | refine below_set ?_ GE267.out) | exact HB.out)) hb); clear BK267; clear HB; have BK267 := n0_; have HB := n1_; clear n0_ n1_; (try clear hb); (try clear hb2); (try clear hk); (try clear hi)))
                go_ret3
                exact ⟨by first | rfl | (simp [errW_none, errW_some] <;> rfl) | (simp [*, errW_none, errW_some] <;> rfl), by repeat (first | (with_reducible first | exact HB.out | apply below_alloc | apply pw_below_drewN | apply below_drew1 | refine below_set ?_ GE267.out) | exact HB.out)⟩
               ·rw [if_neg c67] at H
                have c67b0 : (t283 == 0) = false := beq_eq_false_iff_ne.mpr c67
                have c67b1 : (t283 != 0) = true := bne_iff_ne.mpr c67
                simp only [Option.some.injEq, Prod.mk.injEq] at H
                obtain ⟨rfl, rfl, rfl⟩ := H
                have hcz72_0 : wc.cell? ⟨gb267, 0, none⟩ = some (.int .i64 a1_0) := (blk_cell BK267.out 0).trans rfl
                have hcz72_1 : wc.cell? ⟨gb267, 1, none⟩ = some (.int .i64 a1_1) := (blk_cell BK267.out 1).trans rfl
                have hcz72_2 : wc.cell? ⟨gb267, 2, none⟩ = some (.int .i64 a1_2) := (blk_cell BK267.out 2).trans rfl
                have hcz72_3 : wc.cell? ⟨gb267, 3, none⟩ = some (.int .i64 a1_3) := (blk_cell BK267.out 3).trans rfl
                have hcz72_4 : wc.cell? ⟨gb267, 4, none⟩ = some (.int .i64 a1_4) := (blk_cell BK267.out 4).trans rfl
                have hfz72_0 := blk_frozen BK267.out 0
                have hfz72_1 := blk_frozen BK267.out 1
                have hfz72_2 := blk_frozen BK267.out 2
                have hfz72_3 := blk_frozen BK267.out 3
                have hfz72_4 := blk_frozen BK267.out 4
                go_wp2_with (first | ((with_reducible refine gate_callee (f := 35) rfl ?_); refine goesL_ (some 96) rfl rfl Try.func35 (by kernel_rfl) rfl #[.int .i64 a0, .int .i64 a1_1] rfl (by (try simp only [List.map_toArray, List.map_cons, List.map_nil]); first | done | rfl | (simp only [List.length_drop, List.length_take]; rfl)) ?_; (with_reducible refine (cell_how.calls kj37 a0 a1_1 t275 _ A47.out).mono ?_); rintro e w' ⟨rfl, ⟨nd, rfl⟩⟩; refine ⟨_, rfl, ?_⟩) | ((with_reducible refine gate_callee (f := 43) rfl ?_); refine goesL_ (some 114) rfl rfl Try.func43 (by kernel_rfl) rfl #[.string (a2.extract (x3_18 : Int).toNat ((wrap64 (x3_18 + x13_37)) : Int).toNat)] rfl (by (try simp only [List.map_toArray, List.map_cons, List.map_nil]); first | done | rfl | (simp only [List.length_drop, List.length_take]; rfl)) ?_; (with_reducible refine (hexa_Get.calls kj37 (a2.extract (x3_18 : Int).toNat ((wrap64 (x3_18 + x13_37)) : Int).toNat) t280 t281 true _ A64.out).mono ?_); rintro e w73 ⟨rfl, hb⟩; refine ⟨_, rfl, ?_⟩; have n0_ := Aside0.mk (blk_below (g := gb267) (o := .cells #[.int .i64 a1_0, .int .i64 a1_1, .int .i64 a1_2, .int .i64 a1_3, .int .i64 a1_4] 23 (0, 0)) (by (with_reducible repeat (first | refine blk_drewN ?_ _ | refine blk_drew ?_ | refine blk_alloc ?_ _)); exact BK267.out) hb); have n1_ := Aside0.mk (below_step (by repeat (first | (with_reducible first | exact HB.out | apply below_alloc | apply pw_below_drewN | apply below_drew1 | refine below_set ?_ GE267.out) | exact HB.out)) hb); clear BK267; clear HB; have BK267 := n0_; have HB := n1_; clear n0_ n1_; (try clear hb); (try clear hb2); (try clear hk); (try clear hi); have hcz74_0 : w73.cell? ⟨gb267, 0, none⟩ = some (.int .i64 a1_0) := (blk_cell BK267.out 0).trans rfl; have hcz74_1 : w73.cell? ⟨gb267, 1, none⟩ = some (.int .i64 a1_1) := (blk_cell BK267.out 1).trans rfl; have hcz74_2 : w73.cell? ⟨gb267, 2, none⟩ = some (.int .i64 a1_2) := (blk_cell BK267.out 2).trans rfl; have hcz74_3 : w73.cell? ⟨gb267, 3, none⟩ = some (.int .i64 a1_3) := (blk_cell BK267.out 3).trans rfl; have hcz74_4 : w73.cell? ⟨gb267, 4, none⟩ = some (.int .i64 a1_4) := (blk_cell BK267.out 4).trans rfl; have hfz74_0 := blk_frozen BK267.out 0; have hfz74_1 := blk_frozen BK267.out 1; have hfz74_2 := blk_frozen BK267.out 2; have hfz74_3 := blk_frozen BK267.out 3; have hfz74_4 := blk_frozen BK267.out 4) | ((with_reducible refine gate_callee (f := 16) rfl ?_); refine goesL_ (some 123) rfl rfl Try.func16 (by kernel_rfl) rfl #[.agg #[.int .i64 a1_0, .int .i64 a1_1, .int .i64 a1_2, .int .i64 a1_3, .int .i64 a1_4], .string t280] rfl (by (try simp only [List.map_toArray, List.map_cons, List.map_nil]); first | done | rfl | (simp only [List.length_drop, List.length_take]; rfl)) ?_; (with_reducible refine (spec_Value.calls kj37 a1_0 a1_1 a1_2 a1_3 a1_4 t280 t283 _ A66.out).mono ?_); rintro e w75 ⟨rfl, hb⟩; refine ⟨_, rfl, ?_⟩; have n0_ := Aside0.mk (blk_below (g := gb267) (o := .cells #[.int .i64 a1_0, .int .i64 a1_1, .int .i64 a1_2, .int .i64 a1_3, .int .i64 a1_4] 23 (0, 0)) (by (with_reducible repeat (first | refine blk_drewN ?_ _ | refine blk_drew ?_ | refine blk_alloc ?_ _)); exact BK267.out) hb); have n1_ := Aside0.mk (below_step (by repeat (first | (with_reducible first | exact HB.out | apply below_alloc | apply pw_below_drewN | apply below_drew1 | refine below_set ?_ GE267.out) | exact HB.out)) hb); clear BK267; clear HB; have BK267 := n0_; have HB := n1_; clear n0_ n1_; (try clear hb); (try clear hb2); (try clear hk); (try clear hi)))
                go_ret3
                exact ⟨by first | rfl | (simp [errW_none, errW_some] <;> rfl) | (simp [*, errW_none, errW_some] <;> rfl), by repeat (first | (with_reducible first | exact HB.out | apply below_alloc | apply pw_below_drewN | apply below_drew1 | refine below_set ?_ GE267.out) | exact HB.out)⟩
              ·replace c65 := Bool.eq_false_iff.mpr c65
               subst c65
               have H1 : (some ((⟨#[]⟩ : ByteArray), 0, 3)) = some (r1, r2, r3) := by rw [if_neg (show ¬ (false = true) by decide)] at H; exact H
               clear H
               have H := H1
               clear H1
               simp only [Option.some.injEq, Prod.mk.injEq] at H
               obtain ⟨rfl, rfl, rfl⟩ := H
               have hcz76_0 : wc.cell? ⟨gb267, 0, none⟩ = some (.int .i64 a1_0) := (blk_cell BK267.out 0).trans rfl
               have hcz76_1 : wc.cell? ⟨gb267, 1, none⟩ = some (.int .i64 a1_1) := (blk_cell BK267.out 1).trans rfl
               have hcz76_2 : wc.cell? ⟨gb267, 2, none⟩ = some (.int .i64 a1_2) := (blk_cell BK267.out 2).trans rfl
               have hcz76_3 : wc.cell? ⟨gb267, 3, none⟩ = some (.int .i64 a1_3) := (blk_cell BK267.out 3).trans rfl
               have hcz76_4 : wc.cell? ⟨gb267, 4, none⟩ = some (.int .i64 a1_4) := (blk_cell BK267.out 4).trans rfl
               have hfz76_0 := blk_frozen BK267.out 0
               have hfz76_1 := blk_frozen BK267.out 1
               have hfz76_2 := blk_frozen BK267.out 2
               have hfz76_3 := blk_frozen BK267.out 3
               have hfz76_4 := blk_frozen BK267.out 4
               go_wp2_with (first | ((with_reducible refine gate_callee (f := 35) rfl ?_); refine goesL_ (some 96) rfl rfl Try.func35 (by kernel_rfl) rfl #[.int .i64 a0, .int .i64 a1_1] rfl (by (try simp only [List.map_toArray, List.map_cons, List.map_nil]); first | done | rfl | (simp only [List.length_drop, List.length_take]; rfl)) ?_; (with_reducible refine (cell_how.calls kj37 a0 a1_1 t275 _ A47.out).mono ?_); rintro e w' ⟨rfl, ⟨nd, rfl⟩⟩; refine ⟨_, rfl, ?_⟩) | ((with_reducible refine gate_callee (f := 43) rfl ?_); refine goesL_ (some 114) rfl rfl Try.func43 (by kernel_rfl) rfl #[.string (a2.extract (x3_18 : Int).toNat ((wrap64 (x3_18 + x13_37)) : Int).toNat)] rfl (by (try simp only [List.map_toArray, List.map_cons, List.map_nil]); first | done | rfl | (simp only [List.length_drop, List.length_take]; rfl)) ?_; (with_reducible refine (hexa_Get.calls kj37 (a2.extract (x3_18 : Int).toNat ((wrap64 (x3_18 + x13_37)) : Int).toNat) t280 t281 false _ A64.out).mono ?_); rintro e w77 ⟨rfl, hb⟩; refine ⟨_, rfl, ?_⟩; have n0_ := Aside0.mk (blk_below (g := gb267) (o := .cells #[.int .i64 a1_0, .int .i64 a1_1, .int .i64 a1_2, .int .i64 a1_3, .int .i64 a1_4] 23 (0, 0)) (by (with_reducible repeat (first | refine blk_drewN ?_ _ | refine blk_drew ?_ | refine blk_alloc ?_ _)); exact BK267.out) hb); have n1_ := Aside0.mk (below_step (by repeat (first | (with_reducible first | exact HB.out | apply below_alloc | apply pw_below_drewN | apply below_drew1 | refine below_set ?_ GE267.out) | exact HB.out)) hb); clear BK267; clear HB; have BK267 := n0_; have HB := n1_; clear n0_ n1_; (try clear hb); (try clear hb2); (try clear hk); (try clear hi)))
               go_ret3
               exact ⟨by first | rfl | (simp [errW_none, errW_some] <;> rfl) | (simp [*, errW_none, errW_some] <;> rfl), by repeat (first | (with_reducible first | exact HB.out | apply below_alloc | apply pw_below_drewN | apply below_drew1 | refine below_set ?_ GE267.out) | exact HB.out)⟩
             ·rw [if_neg c63] at H
              have c63b0 : (t275 == 2) = false := beq_eq_false_iff_ne.mpr c63
              have c63b1 : (t275 != 2) = true := bne_iff_ne.mpr c63
              replace H := Option.bind_eq_some_iff.mp H
              obtain ⟨t284, A780, H⟩ := H
              replace H : (if t284 = 0 then (some (a2.extract (x3_18 : Int).toNat ((wrap64 (x3_18 + x13_37)) : Int).toNat, wrap64 (x3_18 + x13_37), 0)) else (some ((⟨#[]⟩ : ByteArray), 0, t284))) = some (r1, r2, r3) := H
              have A78 := Aside0.mk A780
              clear A780
              by_cases c79 : t284 = 0
              ·rw [if_pos c79] at H
               have c79b0 : (t284 == 0) = true := beq_iff_eq.mpr c79
               have c79b1 : (t284 != 0) = false := bne_eq_false_iff_eq.mpr c79
               clear c79
               simp only [Option.some.injEq, Prod.mk.injEq] at H
               obtain ⟨rfl, rfl, rfl⟩ := H
               have hcz80_0 : wc.cell? ⟨gb267, 0, none⟩ = some (.int .i64 a1_0) := (blk_cell BK267.out 0).trans rfl
               have hcz80_1 : wc.cell? ⟨gb267, 1, none⟩ = some (.int .i64 a1_1) := (blk_cell BK267.out 1).trans rfl
               have hcz80_2 : wc.cell? ⟨gb267, 2, none⟩ = some (.int .i64 a1_2) := (blk_cell BK267.out 2).trans rfl
               have hcz80_3 : wc.cell? ⟨gb267, 3, none⟩ = some (.int .i64 a1_3) := (blk_cell BK267.out 3).trans rfl
               have hcz80_4 : wc.cell? ⟨gb267, 4, none⟩ = some (.int .i64 a1_4) := (blk_cell BK267.out 4).trans rfl
               have hfz80_0 := blk_frozen BK267.out 0
               have hfz80_1 := blk_frozen BK267.out 1
               have hfz80_2 := blk_frozen BK267.out 2
               have hfz80_3 := blk_frozen BK267.out 3
               have hfz80_4 := blk_frozen BK267.out 4
               go_wp2_with (first | ((with_reducible refine gate_callee (f := 35) rfl ?_); refine goesL_ (some 96) rfl rfl Try.func35 (by kernel_rfl) rfl #[.int .i64 a0, .int .i64 a1_1] rfl (by (try simp only [List.map_toArray, List.map_cons, List.map_nil]); first | done | rfl | (simp only [List.length_drop, List.length_take]; rfl)) ?_; (with_reducible refine (cell_how.calls kj37 a0 a1_1 t275 _ A47.out).mono ?_); rintro e w' ⟨rfl, ⟨nd, rfl⟩⟩; refine ⟨_, rfl, ?_⟩) | ((with_reducible refine gate_callee (f := 16) rfl ?_); refine goesL_ (some 123) rfl rfl Try.func16 (by kernel_rfl) rfl #[.agg #[.int .i64 a1_0, .int .i64 a1_1, .int .i64 a1_2, .int .i64 a1_3, .int .i64 a1_4], .string (a2.extract (x3_18 : Int).toNat ((wrap64 (x3_18 + x13_37)) : Int).toNat)] rfl (by (try simp only [List.map_toArray, List.map_cons, List.map_nil]); first | done | rfl | (simp only [List.length_drop, List.length_take]; rfl)) ?_; (with_reducible refine (spec_Value.calls kj37 a1_0 a1_1 a1_2 a1_3 a1_4 (a2.extract (x3_18 : Int).toNat ((wrap64 (x3_18 + x13_37)) : Int).toNat) t284 _ A78.out).mono ?_); rintro e w81 ⟨rfl, hb⟩; refine ⟨_, rfl, ?_⟩; have n0_ := Aside0.mk (blk_below (g := gb267) (o := .cells #[.int .i64 a1_0, .int .i64 a1_1, .int .i64 a1_2, .int .i64 a1_3, .int .i64 a1_4] 23 (0, 0)) (by (with_reducible repeat (first | refine blk_drewN ?_ _ | refine blk_drew ?_ | refine blk_alloc ?_ _)); exact BK267.out) hb); have n1_ := Aside0.mk (below_step (by repeat (first | (with_reducible first | exact HB.out | apply below_alloc | apply pw_below_drewN | apply below_drew1 | refine below_set ?_ GE267.out) | exact HB.out)) hb); clear BK267; clear HB; have BK267 := n0_; have HB := n1_; clear n0_ n1_; (try clear hb); (try clear hb2); (try clear hk); (try clear hi)))
               go_ret3
               exact ⟨by first | rfl | (simp [errW_none, errW_some] <;> rfl) | (simp [*, errW_none, errW_some] <;> rfl), by repeat (first | (with_reducible first | exact HB.out | apply below_alloc | apply pw_below_drewN | apply below_drew1 | refine below_set ?_ GE267.out) | exact HB.out)⟩
              ·rw [if_neg c79] at H
               have c79b0 : (t284 == 0) = false := beq_eq_false_iff_ne.mpr c79
               have c79b1 : (t284 != 0) = true := bne_iff_ne.mpr c79
               simp only [Option.some.injEq, Prod.mk.injEq] at H
               obtain ⟨rfl, rfl, rfl⟩ := H
               have hcz82_0 : wc.cell? ⟨gb267, 0, none⟩ = some (.int .i64 a1_0) := (blk_cell BK267.out 0).trans rfl
               have hcz82_1 : wc.cell? ⟨gb267, 1, none⟩ = some (.int .i64 a1_1) := (blk_cell BK267.out 1).trans rfl
               have hcz82_2 : wc.cell? ⟨gb267, 2, none⟩ = some (.int .i64 a1_2) := (blk_cell BK267.out 2).trans rfl
               have hcz82_3 : wc.cell? ⟨gb267, 3, none⟩ = some (.int .i64 a1_3) := (blk_cell BK267.out 3).trans rfl
               have hcz82_4 : wc.cell? ⟨gb267, 4, none⟩ = some (.int .i64 a1_4) := (blk_cell BK267.out 4).trans rfl
               have hfz82_0 := blk_frozen BK267.out 0
               have hfz82_1 := blk_frozen BK267.out 1
               have hfz82_2 := blk_frozen BK267.out 2
               have hfz82_3 := blk_frozen BK267.out 3
               have hfz82_4 := blk_frozen BK267.out 4
               go_wp2_with (first | ((with_reducible refine gate_callee (f := 35) rfl ?_); refine goesL_ (some 96) rfl rfl Try.func35 (by kernel_rfl) rfl #[.int .i64 a0, .int .i64 a1_1] rfl (by (try simp only [List.map_toArray, List.map_cons, List.map_nil]); first | done | rfl | (simp only [List.length_drop, List.length_take]; rfl)) ?_; (with_reducible refine (cell_how.calls kj37 a0 a1_1 t275 _ A47.out).mono ?_); rintro e w' ⟨rfl, ⟨nd, rfl⟩⟩; refine ⟨_, rfl, ?_⟩) | ((with_reducible refine gate_callee (f := 16) rfl ?_); refine goesL_ (some 123) rfl rfl Try.func16 (by kernel_rfl) rfl #[.agg #[.int .i64 a1_0, .int .i64 a1_1, .int .i64 a1_2, .int .i64 a1_3, .int .i64 a1_4], .string (a2.extract (x3_18 : Int).toNat ((wrap64 (x3_18 + x13_37)) : Int).toNat)] rfl (by (try simp only [List.map_toArray, List.map_cons, List.map_nil]); first | done | rfl | (simp only [List.length_drop, List.length_take]; rfl)) ?_; (with_reducible refine (spec_Value.calls kj37 a1_0 a1_1 a1_2 a1_3 a1_4 (a2.extract (x3_18 : Int).toNat ((wrap64 (x3_18 + x13_37)) : Int).toNat) t284 _ A78.out).mono ?_); rintro e w83 ⟨rfl, hb⟩; refine ⟨_, rfl, ?_⟩; have n0_ := Aside0.mk (blk_below (g := gb267) (o := .cells #[.int .i64 a1_0, .int .i64 a1_1, .int .i64 a1_2, .int .i64 a1_3, .int .i64 a1_4] 23 (0, 0)) (by (with_reducible repeat (first | refine blk_drewN ?_ _ | refine blk_drew ?_ | refine blk_alloc ?_ _)); exact BK267.out) hb); have n1_ := Aside0.mk (below_step (by repeat (first | (with_reducible first | exact HB.out | apply below_alloc | apply pw_below_drewN | apply below_drew1 | refine below_set ?_ GE267.out) | exact HB.out)) hb); clear BK267; clear HB; have BK267 := n0_; have HB := n1_; clear n0_ n1_; (try clear hb); (try clear hb2); (try clear hk); (try clear hi)))
               go_ret3
               exact ⟨by first | rfl | (simp [errW_none, errW_some] <;> rfl) | (simp [*, errW_none, errW_some] <;> rfl), by repeat (first | (with_reducible first | exact HB.out | apply below_alloc | apply pw_below_drewN | apply below_drew1 | refine below_set ?_ GE267.out) | exact HB.out)⟩
           ·rw [if_neg c46] at H
            exact absurd H (by simp)
          ·rw [if_neg c45] at H
           exact absurd H (by simp)
         ·rw [if_neg c44] at H
          exact absurd H (by simp)

end Go.Proofs.Ytfaeodcapagjbaa.P
