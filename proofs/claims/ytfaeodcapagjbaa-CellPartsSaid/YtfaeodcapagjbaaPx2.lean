-- written for this claim by wip/pp.py
import Derived.Test.YtfaeodcapagjbaaPx0
import Derived.Test.YtfaeodcapagjbaaPx1
namespace Go.Proofs.Ytfaeodcapagjbaa.P
open Go.RowKit Go.Proofs.YtfaeodcapagjbaaW.PrintWords Go.Proofs.YtfaeodcapagjbaaW.PrintLast Go.Proofs.YtfaeodcapagjbaaW.PrintMore
attribute [local go_sem] max2_int min2_int max_two min_two max_three min_three max_four min_four   -- for this text's walks alone
set_option linter.unusedVariables false
set_option linter.unusedSimpArgs false

/-! ### tag_Get: function 50 -/
def tag_Get.j0 : Nat → ByteArray → Int → Bool → Option (Int × Int × Int)
 | 0, _, _, _ => none
 | k + 1, x0, x1, x15 => if x15 = true then (some (0, 0, 1)) else (if x1 = (x0.size : Int) then (some (0, 0, 2)) else (if 0 ≤ x1 then (if x1 < (x0.size : Int) then ((tag_first.f (wrap64 (bt x0 x1))).bind fun t110 => (if t110 = true then (if (Go.bits .and .i64 (wrap64 (bt x0 x1)) 31) = 31 then (if (wrap64 (x1 + 1)) = (x0.size : Int) then (some (0, 0, 2)) else (if 0 ≤ (wrap64 (x1 + 1)) then (if (wrap64 (x1 + 1)) < (x0.size : Int) then ((tag_Right.f (Go.bits .or .i64 (wrap64 ((wrap64 (bt x0 x1)) * 256)) (wrap64 (bt x0 (wrap64 (x1 + 1)))))).bind fun t111 => (if t111 = true then (some (Go.bits .or .i64 (wrap64 ((wrap64 (bt x0 x1)) * 256)) (wrap64 (bt x0 (wrap64 (x1 + 1)))), wrap64 (x1 + 2), 0)) else (some (0, 0, 13)))) else (none)) else (none))) else (some (wrap64 (bt x0 x1), wrap64 (x1 + 1), 0))) else (some (0, 0, 13)))) else (none)) else (none)))
def tag_Get.f (k : Nat) (a0 : ByteArray) (a1 : Int) : Option (Int × Int × Int) := if a1 < 0 then (tag_Get.j0 k a0 a1 true) else (tag_Get.j0 k a0 a1 (decide (a1 > (a0.size : Int))))
theorem tag_Get.mono_l : ∀ k, (∀ y0 y1 y2, LeO (tag_Get.j0 k y0 y1 y2) (tag_Get.j0 (k + 1) y0 y1 y2))
 | 0 => fun _ _ _ r h => by simp [tag_Get.j0] at h
 | k + 1 => by
  have ih0 := tag_Get.mono_l k
  ·intro y0 y1 y2
   unfold tag_Get.j0
   repeat' first
   | (with_reducible exact ih0 _ _ _)
   | (with_reducible exact LeO.refl _)
   | (with_reducible exact LeO.none _)
   | (with_reducible refine LeO.ite ?_ ?_)
   | (with_reducible refine LeO.bind ?_ (fun _ => ?_))
   | exact ih0 _ _ _
   | exact LeO.none _
   | refine LeO.ite ?_ ?_
   | refine LeO.bind ?_ (fun _ => ?_)
theorem tag_Get.mono : ∀ a0 a1 k, LeO (tag_Get.f k a0 a1) (tag_Get.f (k + 1) a0 a1) := by
 intro a0 a1 k
 have ih0 := tag_Get.mono_l k
 unfold tag_Get.f
 repeat' first
   | (with_reducible exact ih0 _ _ _)
   | (with_reducible exact LeO.refl _)
   | (with_reducible exact LeO.none _)
   | (with_reducible refine LeO.ite ?_ ?_)
   | (with_reducible refine LeO.bind ?_ (fun _ => ?_))
   | exact ih0 _ _ _
   | exact LeO.none _
   | refine LeO.ite ?_ ?_
   | refine LeO.bind ?_ (fun _ => ?_)
set_option maxHeartbeats 8000000 in
set_option maxRecDepth 100000 in
theorem tag_Get.calls (k : Nat) (a0 : ByteArray) (a1 : Int) (r1 : Int) (r2 : Int) (r3 : Int) (w : World) (h : tag_Get.f k a0 a1 = some (r1, r2, r3)) :
  Calls Try.prog 50 #[.string a0, .int .i64 a1] w fun e w' => e = .returned (.tuple #[.int .i64 r1, .int .i64 r2, .int .i64 r3]) ∧ Drawn0 w w' := by
 have H : (if a1 < 0 then (tag_Get.j0 k a0 a1 true) else (tag_Get.j0 k a0 a1 (decide (a1 > (a0.size : Int))))) = some (r1, r2, r3) := h
 clear h
 have HC3 := Aside0.mk H
 clear H
 go_enter Try.func50, Try.ntmps50
 go_upto_region 1 with (fail)
 go_cut [15] (fun v15 wc => ∃ (kq : Nat) (x15_2 : Bool), v15 = .bool x15_2 ∧ Aside0 (tag_Get.j0 kq a0 a1 x15_2 = some (r1, r2, r3)) ∧ Aside0 (kq ≤ k) ∧ Drawn0 w wc)
 case first =>
  have H := HC3.out
  clear HC3
  by_cases c4 : a1 < 0
  ·rw [if_pos c4] at H
   have c4b0 : decide (a1 < 0) = true := decide_eq_true c4
   clear c4
   (first | rw [c4b0] | (simp only [i64_w, i32_w]; rw [c4b0]) | skip)
   have H' := Aside0.mk H
   clear H
   go_wp2
   go_meet
   case rel => exact ⟨_, (true), (by first | rfl | (simp; done) | (simp [*]; done) | (simp [wrap64]; done)), H', ⟨by first | omega | exact Nat.le_refl _⟩, by repeat (first | exact Drawn0.refl _ | apply Drawn0.step)⟩
  ·rw [if_neg c4] at H
   have c4b0 : decide (a1 < 0) = false := decide_eq_false c4
   clear c4
   (first | rw [c4b0] | (simp only [i64_w, i32_w]; rw [c4b0]) | skip)
   have H' := Aside0.mk H
   clear H
   go_wp2
   go_meet
   case rel => exact ⟨_, (decide (a1 > (a0.size : Int))), (by first | rfl | (simp; done) | (simp [*]; done) | (simp [wrap64]; done)), H', ⟨by first | omega | exact Nat.le_refl _⟩, by repeat (first | exact Drawn0.refl _ | apply Drawn0.step)⟩
 case rest =>
  clear HC3
  try clear p2
  try clear c4
  try clear c4b0
  obtain ⟨kq, x15_2, rfl, HA, HJ2, ⟨mc2, rfl⟩⟩ := hcut
  cases kq with
  | zero => exact absurd HA.out (by simp [tag_Get.j0])
  | succ kj2 =>
   have H := HA.out
   clear HA
   simp only [tag_Get.j0] at H
   by_cases c5 : x15_2 = true
   ·subst c5
    have H1 : (some (0, 0, 1)) = some (r1, r2, r3) := by rw [if_pos rfl] at H; exact H
    clear H
    have H := H1
    clear H1
    simp only [Option.some.injEq, Prod.mk.injEq] at H
    obtain ⟨rfl, rfl, rfl⟩ := H
    go_wp2
    go_ret3
    exact ⟨by first | rfl | (simp; done) | (simp [*]; done) | (simp [wrap64]; done), by repeat (first | exact Drawn0.refl _ | apply Drawn0.step)⟩
   ·replace c5 := Bool.eq_false_iff.mpr c5
    subst c5
    have H1 : (if a1 = (a0.size : Int) then (some (0, 0, 2)) else (if 0 ≤ a1 then (if a1 < (a0.size : Int) then ((tag_first.f (wrap64 (bt a0 a1))).bind fun t110 => (if t110 = true then (if (Go.bits .and .i64 (wrap64 (bt a0 a1)) 31) = 31 then (if (wrap64 (a1 + 1)) = (a0.size : Int) then (some (0, 0, 2)) else (if 0 ≤ (wrap64 (a1 + 1)) then (if (wrap64 (a1 + 1)) < (a0.size : Int) then ((tag_Right.f (Go.bits .or .i64 (wrap64 ((wrap64 (bt a0 a1)) * 256)) (wrap64 (bt a0 (wrap64 (a1 + 1)))))).bind fun t111 => (if t111 = true then (some (Go.bits .or .i64 (wrap64 ((wrap64 (bt a0 a1)) * 256)) (wrap64 (bt a0 (wrap64 (a1 + 1)))), wrap64 (a1 + 2), 0)) else (some (0, 0, 13)))) else (none)) else (none))) else (some (wrap64 (bt a0 a1), wrap64 (a1 + 1), 0))) else (some (0, 0, 13)))) else (none)) else (none))) = some (r1, r2, r3) := by rw [if_neg (show ¬ (false = true) by decide)] at H; exact H
    clear H
    have H := H1
    clear H1
    by_cases c6 : a1 = (a0.size : Int)
    ·rw [if_pos c6] at H
     have c6b0 : (a1 == (a0.size : Int)) = true := beq_iff_eq.mpr c6
     have c6b1 : (a1 != (a0.size : Int)) = false := bne_eq_false_iff_eq.mpr c6
     clear c6
     simp only [Option.some.injEq, Prod.mk.injEq] at H
     obtain ⟨rfl, rfl, rfl⟩ := H
     go_wp2
     go_ret3
     exact ⟨by first | rfl | (simp; done) | (simp [*]; done) | (simp [wrap64]; done), by repeat (first | exact Drawn0.refl _ | apply Drawn0.step)⟩
    ·rw [if_neg c6] at H
     have c6b0 : (a1 == (a0.size : Int)) = false := beq_eq_false_iff_ne.mpr c6
     have c6b1 : (a1 != (a0.size : Int)) = true := bne_iff_ne.mpr c6
     by_cases c7 : 0 ≤ a1
     ·rw [if_pos c7] at H
      have c7b0 : decide (0 ≤ a1) = true := decide_eq_true c7
      clear c7
      by_cases c8 : a1 < (a0.size : Int)
      ·rw [if_pos c8] at H
       have c8b0 : decide (a1 < (a0.size : Int)) = true := decide_eq_true c8
       clear c8
       replace H := Option.bind_eq_some_iff.mp H
       obtain ⟨t110, A100, H⟩ := H
       replace H : (if t110 = true then (if (Go.bits .and .i64 (wrap64 (bt a0 a1)) 31) = 31 then (if (wrap64 (a1 + 1)) = (a0.size : Int) then (some (0, 0, 2)) else (if 0 ≤ (wrap64 (a1 + 1)) then (if (wrap64 (a1 + 1)) < (a0.size : Int) then ((tag_Right.f (Go.bits .or .i64 (wrap64 ((wrap64 (bt a0 a1)) * 256)) (wrap64 (bt a0 (wrap64 (a1 + 1)))))).bind fun t111 => (if t111 = true then (some (Go.bits .or .i64 (wrap64 ((wrap64 (bt a0 a1)) * 256)) (wrap64 (bt a0 (wrap64 (a1 + 1)))), wrap64 (a1 + 2), 0)) else (some (0, 0, 13)))) else (none)) else (none))) else (some (wrap64 (bt a0 a1), wrap64 (a1 + 1), 0))) else (some (0, 0, 13))) = some (r1, r2, r3) := H
       have A10 := Aside0.mk A100
       clear A100
       by_cases c11 : t110 = true
       ·subst c11
        have H1 : (if (Go.bits .and .i64 (wrap64 (bt a0 a1)) 31) = 31 then (if (wrap64 (a1 + 1)) = (a0.size : Int) then (some (0, 0, 2)) else (if 0 ≤ (wrap64 (a1 + 1)) then (if (wrap64 (a1 + 1)) < (a0.size : Int) then ((tag_Right.f (Go.bits .or .i64 (wrap64 ((wrap64 (bt a0 a1)) * 256)) (wrap64 (bt a0 (wrap64 (a1 + 1)))))).bind fun t111 => (if t111 = true then (some (Go.bits .or .i64 (wrap64 ((wrap64 (bt a0 a1)) * 256)) (wrap64 (bt a0 (wrap64 (a1 + 1)))), wrap64 (a1 + 2), 0)) else (some (0, 0, 13)))) else (none)) else (none))) else (some (wrap64 (bt a0 a1), wrap64 (a1 + 1), 0))) = some (r1, r2, r3) := by rw [if_pos rfl] at H; exact H
        clear H
        have H := H1
        clear H1
        by_cases c12 : (Go.bits .and .i64 (wrap64 (bt a0 a1)) 31) = 31
        ·rw [if_pos c12] at H
         have c12b0 : ((Go.bits .and .i64 (wrap64 (bt a0 a1)) 31) == 31) = true := beq_iff_eq.mpr c12
         have c12b1 : ((Go.bits .and .i64 (wrap64 (bt a0 a1)) 31) != 31) = false := bne_eq_false_iff_eq.mpr c12
         clear c12
         by_cases c13 : (wrap64 (a1 + 1)) = (a0.size : Int)
         ·rw [if_pos c13] at H
          have c13b0 : ((wrap64 (a1 + 1)) == (a0.size : Int)) = true := beq_iff_eq.mpr c13
          have c13b1 : ((wrap64 (a1 + 1)) != (a0.size : Int)) = false := bne_eq_false_iff_eq.mpr c13
          clear c13
          simp only [Option.some.injEq, Prod.mk.injEq] at H
          obtain ⟨rfl, rfl, rfl⟩ := H
          have p9 : 0 ≤ (a1 : Int) := of_decide_eq_true (by first | (with_reducible assumption) | assumption)
          have q9 : a1 < (a0.size : Int) := of_decide_eq_true (by first | (with_reducible assumption) | assumption)
          have hx9 := bt_at a0 a1
          replace p9 := eq_true p9
          replace q9 := eq_true q9
          go_wp2_with (first | ((with_reducible refine gate_callee (f := 68) rfl ?_); refine goesL_ (some 26) rfl rfl Try.func68 (by kernel_rfl) rfl #[.int .i64 (wrap64 (bt a0 a1))] rfl (by (try simp only [List.map_toArray, List.map_cons, List.map_nil]); first | done | rfl | (simp only [List.length_drop, List.length_take]; rfl)) ?_; (with_reducible refine (tag_first.calls (wrap64 (bt a0 a1)) true _ A10.out).mono ?_); rintro e w' ⟨rfl, ⟨nd, rfl⟩⟩; refine ⟨_, rfl, ?_⟩))
          go_ret3
          exact ⟨by first | rfl | (simp; done) | (simp [*]; done) | (simp [wrap64]; done), by repeat (first | exact Drawn0.refl _ | apply Drawn0.step)⟩
         ·rw [if_neg c13] at H
          have c13b0 : ((wrap64 (a1 + 1)) == (a0.size : Int)) = false := beq_eq_false_iff_ne.mpr c13
          have c13b1 : ((wrap64 (a1 + 1)) != (a0.size : Int)) = true := bne_iff_ne.mpr c13
          obtain ⟨ji14, hji14⟩ : ∃ j_ : Int, (wrap64 (a1 + 1)) = j_ := ⟨_, rfl⟩
          replace H : (if 0 ≤ (ji14) then (if (ji14) < (a0.size : Int) then ((tag_Right.f (Go.bits .or .i64 (wrap64 ((wrap64 (bt a0 a1)) * 256)) (wrap64 (bt a0 (ji14))))).bind fun t111 => (if t111 = true then (some (Go.bits .or .i64 (wrap64 ((wrap64 (bt a0 a1)) * 256)) (wrap64 (bt a0 (ji14))), wrap64 (a1 + 2), 0)) else (some (0, 0, 13)))) else (none)) else (none)) = some (r1, r2, r3) := by first | (rw [hji14] at H; exact H) | (simp only [hji14] at H ⊢; exact H)
          (try rw [hji14] at c13b0)
          (try rw [hji14] at c13b1)
          (try rw [hji14] at A10)
          have hji14w : (IntKind.i64.wrap (a1 + 1)) = ji14 := (i64_w _).trans hji14
          by_cases c15 : 0 ≤ (ji14)
          ·rw [if_pos c15] at H
           have c15b0 : decide (0 ≤ (ji14)) = true := decide_eq_true c15
           clear c15
           by_cases c16 : (ji14) < (a0.size : Int)
           ·rw [if_pos c16] at H
            have c16b0 : decide ((ji14) < (a0.size : Int)) = true := decide_eq_true c16
            clear c16
            replace H := Option.bind_eq_some_iff.mp H
            obtain ⟨t111, A180, H⟩ := H
            replace H : (if t111 = true then (some (Go.bits .or .i64 (wrap64 ((wrap64 (bt a0 a1)) * 256)) (wrap64 (bt a0 (ji14))), wrap64 (a1 + 2), 0)) else (some (0, 0, 13))) = some (r1, r2, r3) := H
            have A18 := Aside0.mk A180
            clear A180
            by_cases c19 : t111 = true
            ·subst c19
             have H1 : (some (Go.bits .or .i64 (wrap64 ((wrap64 (bt a0 a1)) * 256)) (wrap64 (bt a0 (ji14))), wrap64 (a1 + 2), 0)) = some (r1, r2, r3) := by rw [if_pos rfl] at H; exact H
             clear H
             have H := H1
             clear H1
             simp only [Option.some.injEq, Prod.mk.injEq] at H
             obtain ⟨rfl, rfl, rfl⟩ := H
             have p9 : 0 ≤ (a1 : Int) := of_decide_eq_true (by first | (with_reducible assumption) | assumption)
             have q9 : a1 < (a0.size : Int) := of_decide_eq_true (by first | (with_reducible assumption) | assumption)
             have hx9 := bt_at a0 a1
             replace p9 := eq_true p9
             replace q9 := eq_true q9
             go_wp2_with (first | ((with_reducible refine gate_callee (f := 68) rfl ?_); refine goesL_ (some 26) rfl rfl Try.func68 (by kernel_rfl) rfl #[.int .i64 (wrap64 (bt a0 a1))] rfl (by (try simp only [List.map_toArray, List.map_cons, List.map_nil]); first | done | rfl | (simp only [List.length_drop, List.length_take]; rfl)) ?_; (with_reducible refine (tag_first.calls (wrap64 (bt a0 a1)) true _ A10.out).mono ?_); rintro e w' ⟨rfl, ⟨nd, rfl⟩⟩; refine ⟨_, rfl, ?_⟩; have p17 : 0 ≤ ((ji14) : Int) := of_decide_eq_true (by first | (with_reducible assumption) | assumption); have q17 : (ji14) < (a0.size : Int) := of_decide_eq_true (by first | (with_reducible assumption) | assumption); have hx17 := bt_at a0 (ji14); replace p17 := eq_true p17; replace q17 := eq_true q17) | ((with_reducible refine gate_callee (f := 69) rfl ?_); refine goesL_ (some 50) rfl rfl Try.func69 (by kernel_rfl) rfl #[.int .i64 (Go.bits .or .i64 (wrap64 ((wrap64 (bt a0 a1)) * 256)) (wrap64 (bt a0 (ji14))))] rfl (by (try simp only [List.map_toArray, List.map_cons, List.map_nil]); first | done | (simp only [hji14]; rfl) | rfl | (simp only [List.length_drop, List.length_take]; rfl)) ?_; (with_reducible refine (tag_Right.calls (Go.bits .or .i64 (wrap64 ((wrap64 (bt a0 a1)) * 256)) (wrap64 (bt a0 (ji14)))) true _ A18.out).mono ?_); rintro e w' ⟨rfl, ⟨nd, rfl⟩⟩; refine ⟨_, rfl, ?_⟩))
             go_ret3
             exact ⟨by first | rfl | (simp; done) | (simp only [← hji14] <;> (first | rfl | simp)) | (simp [*]; done), by repeat (first | exact Drawn0.refl _ | apply Drawn0.step)⟩
            ·replace c19 := Bool.eq_false_iff.mpr c19
             subst c19
             have H1 : (some (0, 0, 13)) = some (r1, r2, r3) := by rw [if_neg (show ¬ (false = true) by decide)] at H; exact H
             clear H
             have H := H1
             clear H1
             simp only [Option.some.injEq, Prod.mk.injEq] at H
             obtain ⟨rfl, rfl, rfl⟩ := H
             have p9 : 0 ≤ (a1 : Int) := of_decide_eq_true (by first | (with_reducible assumption) | assumption)
             have q9 : a1 < (a0.size : Int) := of_decide_eq_true (by first | (with_reducible assumption) | assumption)
             have hx9 := bt_at a0 a1
             replace p9 := eq_true p9
             replace q9 := eq_true q9
             go_wp2_with (first | ((with_reducible refine gate_callee (f := 68) rfl ?_); refine goesL_ (some 26) rfl rfl Try.func68 (by kernel_rfl) rfl #[.int .i64 (wrap64 (bt a0 a1))] rfl (by (try simp only [List.map_toArray, List.map_cons, List.map_nil]); first | done | rfl | (simp only [List.length_drop, List.length_take]; rfl)) ?_; (with_reducible refine (tag_first.calls (wrap64 (bt a0 a1)) true _ A10.out).mono ?_); rintro e w' ⟨rfl, ⟨nd, rfl⟩⟩; refine ⟨_, rfl, ?_⟩; have p17 : 0 ≤ ((ji14) : Int) := of_decide_eq_true (by first | (with_reducible assumption) | assumption); have q17 : (ji14) < (a0.size : Int) := of_decide_eq_true (by first | (with_reducible assumption) | assumption); have hx17 := bt_at a0 (ji14); replace p17 := eq_true p17; replace q17 := eq_true q17) | ((with_reducible refine gate_callee (f := 69) rfl ?_); refine goesL_ (some 50) rfl rfl Try.func69 (by kernel_rfl) rfl #[.int .i64 (Go.bits .or .i64 (wrap64 ((wrap64 (bt a0 a1)) * 256)) (wrap64 (bt a0 (ji14))))] rfl (by (try simp only [List.map_toArray, List.map_cons, List.map_nil]); first | done | (simp only [hji14]; rfl) | rfl | (simp only [List.length_drop, List.length_take]; rfl)) ?_; (with_reducible refine (tag_Right.calls (Go.bits .or .i64 (wrap64 ((wrap64 (bt a0 a1)) * 256)) (wrap64 (bt a0 (ji14)))) false _ A18.out).mono ?_); rintro e w' ⟨rfl, ⟨nd, rfl⟩⟩; refine ⟨_, rfl, ?_⟩))
             go_ret3
             exact ⟨by first | rfl | (simp; done) | (simp only [← hji14] <;> (first | rfl | simp)) | (simp [*]; done), by repeat (first | exact Drawn0.refl _ | apply Drawn0.step)⟩
           ·rw [if_neg c16] at H
            exact absurd H (by simp)
          ·rw [if_neg c15] at H
           exact absurd H (by simp)
        ·rw [if_neg c12] at H
         have c12b0 : ((Go.bits .and .i64 (wrap64 (bt a0 a1)) 31) == 31) = false := beq_eq_false_iff_ne.mpr c12
         have c12b1 : ((Go.bits .and .i64 (wrap64 (bt a0 a1)) 31) != 31) = true := bne_iff_ne.mpr c12
         simp only [Option.some.injEq, Prod.mk.injEq] at H
         obtain ⟨rfl, rfl, rfl⟩ := H
         have p9 : 0 ≤ (a1 : Int) := of_decide_eq_true (by first | (with_reducible assumption) | assumption)
         have q9 : a1 < (a0.size : Int) := of_decide_eq_true (by first | (with_reducible assumption) | assumption)
         have hx9 := bt_at a0 a1
         replace p9 := eq_true p9
         replace q9 := eq_true q9
         go_wp2_with (first | ((with_reducible refine gate_callee (f := 68) rfl ?_); refine goesL_ (some 26) rfl rfl Try.func68 (by kernel_rfl) rfl #[.int .i64 (wrap64 (bt a0 a1))] rfl (by (try simp only [List.map_toArray, List.map_cons, List.map_nil]); first | done | rfl | (simp only [List.length_drop, List.length_take]; rfl)) ?_; (with_reducible refine (tag_first.calls (wrap64 (bt a0 a1)) true _ A10.out).mono ?_); rintro e w' ⟨rfl, ⟨nd, rfl⟩⟩; refine ⟨_, rfl, ?_⟩))
         go_ret3
         exact ⟨by first | rfl | (simp; done) | (simp [*]; done) | (simp [wrap64]; done), by repeat (first | exact Drawn0.refl _ | apply Drawn0.step)⟩
       ·replace c11 := Bool.eq_false_iff.mpr c11
        subst c11
        have H1 : (some (0, 0, 13)) = some (r1, r2, r3) := by rw [if_neg (show ¬ (false = true) by decide)] at H; exact H
        clear H
        have H := H1
        clear H1
        simp only [Option.some.injEq, Prod.mk.injEq] at H
        obtain ⟨rfl, rfl, rfl⟩ := H
        have p9 : 0 ≤ (a1 : Int) := of_decide_eq_true (by first | (with_reducible assumption) | assumption)
        have q9 : a1 < (a0.size : Int) := of_decide_eq_true (by first | (with_reducible assumption) | assumption)
        have hx9 := bt_at a0 a1
        replace p9 := eq_true p9
        replace q9 := eq_true q9
        go_wp2_with (first | ((with_reducible refine gate_callee (f := 68) rfl ?_); refine goesL_ (some 26) rfl rfl Try.func68 (by kernel_rfl) rfl #[.int .i64 (wrap64 (bt a0 a1))] rfl (by (try simp only [List.map_toArray, List.map_cons, List.map_nil]); first | done | rfl | (simp only [List.length_drop, List.length_take]; rfl)) ?_; (with_reducible refine (tag_first.calls (wrap64 (bt a0 a1)) false _ A10.out).mono ?_); rintro e w' ⟨rfl, ⟨nd, rfl⟩⟩; refine ⟨_, rfl, ?_⟩))
        go_ret3
        exact ⟨by first | rfl | (simp; done) | (simp [*]; done) | (simp [wrap64]; done), by repeat (first | exact Drawn0.refl _ | apply Drawn0.step)⟩
      ·rw [if_neg c8] at H
       exact absurd H (by simp)
     ·rw [if_neg c7] at H
      exact absurd H (by simp)
/-! ### ber_Size: function 70 -/
def ber_Size.j0 : Nat → Int → Int → Bool → Option (Int)
 | 0, _, _, _ => none
 | k + 1, x0, x2, x3 => if x3 = true then (some 0) else (if x0 > 255 then (some (wrap64 ((wrap64 ((wrap64 (x2 + 1)) + 1)) + 1))) else (if x0 > 127 then (some (wrap64 ((wrap64 (x2 + 1)) + 1))) else (some (wrap64 (x2 + 1)))))
def ber_Size.f (k : Nat) (a0 : Int) : Option (Int) := if a0 < 0 then (ber_Size.j0 k a0 0 true) else (ber_Size.j0 k a0 0 (decide (a0 > 65535)))
theorem ber_Size.mono_l : ∀ k, (∀ y0 y1 y2, LeO (ber_Size.j0 k y0 y1 y2) (ber_Size.j0 (k + 1) y0 y1 y2))
 | 0 => fun _ _ _ r h => by simp [ber_Size.j0] at h
 | k + 1 => by
  have ih0 := ber_Size.mono_l k
  ·intro y0 y1 y2
   unfold ber_Size.j0
   repeat' first
   | (with_reducible exact ih0 _ _ _)
   | (with_reducible exact LeO.refl _)
   | (with_reducible exact LeO.none _)
   | (with_reducible refine LeO.ite ?_ ?_)
   | (with_reducible refine LeO.bind ?_ (fun _ => ?_))
   | exact ih0 _ _ _
   | exact LeO.none _
   | refine LeO.ite ?_ ?_
   | refine LeO.bind ?_ (fun _ => ?_)
theorem ber_Size.mono : ∀ a0 k, LeO (ber_Size.f k a0) (ber_Size.f (k + 1) a0) := by
 intro a0 k
 have ih0 := ber_Size.mono_l k
 unfold ber_Size.f
 repeat' first
   | (with_reducible exact ih0 _ _ _)
   | (with_reducible exact LeO.refl _)
   | (with_reducible exact LeO.none _)
   | (with_reducible refine LeO.ite ?_ ?_)
   | (with_reducible refine LeO.bind ?_ (fun _ => ?_))
   | exact ih0 _ _ _
   | exact LeO.none _
   | refine LeO.ite ?_ ?_
   | refine LeO.bind ?_ (fun _ => ?_)
set_option maxHeartbeats 8000000 in
set_option maxRecDepth 100000 in
theorem ber_Size.calls (k : Nat) (a0 : Int) (r : Int) (w : World) (h : ber_Size.f k a0 = some r) :
  Calls Try.prog 70 #[.int .i64 a0] w fun e w' => e = .returned (.int .i64 r) ∧ Drawn0 w w' := by
 have H : (if a0 < 0 then (ber_Size.j0 k a0 0 true) else (ber_Size.j0 k a0 0 (decide (a0 > 65535)))) = some r := h
 clear h
 have HC2 := Aside0.mk H
 clear H
 go_enter Try.func70, Try.ntmps70
 go_upto_region 1 with (fail)
 go_cut [3] (fun v3 wc => ∃ (kq : Nat) (x3_1 : Bool), v3 = .bool x3_1 ∧ Aside0 (ber_Size.j0 kq a0 0 x3_1 = some r) ∧ Aside0 (kq ≤ k) ∧ Drawn0 w wc)
 case first =>
  have H := HC2.out
  clear HC2
  by_cases c3 : a0 < 0
  ·rw [if_pos c3] at H
   have c3b0 : decide (a0 < 0) = true := decide_eq_true c3
   clear c3
   (first | rw [c3b0] | (simp only [i64_w, i32_w]; rw [c3b0]) | skip)
   have H' := Aside0.mk H
   clear H
   go_wp2
   go_meet
   case rel => exact ⟨_, (true), (by first | rfl | (simp; done) | (simp [*]; done) | (simp [wrap64]; done)), H', ⟨by first | omega | exact Nat.le_refl _⟩, by repeat (first | exact Drawn0.refl _ | apply Drawn0.step)⟩
  ·rw [if_neg c3] at H
   have c3b0 : decide (a0 < 0) = false := decide_eq_false c3
   clear c3
   (first | rw [c3b0] | (simp only [i64_w, i32_w]; rw [c3b0]) | skip)
   have H' := Aside0.mk H
   clear H
   go_wp2
   go_meet
   case rel => exact ⟨_, (decide (a0 > 65535)), (by first | rfl | (simp; done) | (simp [*]; done) | (simp [wrap64]; done)), H', ⟨by first | omega | exact Nat.le_refl _⟩, by repeat (first | exact Drawn0.refl _ | apply Drawn0.step)⟩
 case rest =>
  clear HC2
  try clear p2
  try clear c3
  try clear c3b0
  obtain ⟨kq, x3_1, rfl, HA, HJ1, ⟨mc1, rfl⟩⟩ := hcut
  cases kq with
  | zero => exact absurd HA.out (by simp [ber_Size.j0])
  | succ kj1 =>
   have H := HA.out
   clear HA
   simp only [ber_Size.j0] at H
   by_cases c4 : x3_1 = true
   ·subst c4
    have H1 : (some 0) = some r := by rw [if_pos rfl] at H; exact H
    clear H
    have H := H1
    clear H1
    obtain rfl := Option.some.inj H
    go_wp2
    go_ret
    exact ⟨by first | rfl | (simp; done) | (simp [*]; done) | (simp [wrap64]; done), by repeat (first | exact Drawn0.refl _ | apply Drawn0.step)⟩
   ·replace c4 := Bool.eq_false_iff.mpr c4
    subst c4
    have H1 : (if a0 > 255 then (some (wrap64 ((wrap64 ((wrap64 (0 + 1)) + 1)) + 1))) else (if a0 > 127 then (some (wrap64 ((wrap64 (0 + 1)) + 1))) else (some (wrap64 (0 + 1))))) = some r := by rw [if_neg (show ¬ (false = true) by decide)] at H; exact H
    clear H
    have H := H1
    clear H1
    by_cases c5 : a0 > 255
    ·rw [if_pos c5] at H
     have c5b0 : decide (255 < a0) = true := decide_eq_true c5
     clear c5
     obtain rfl := Option.some.inj H
     go_wp2
     go_ret
     exact ⟨by first | rfl | (simp; done) | (simp [*]; done) | (simp [wrap64]; done), by repeat (first | exact Drawn0.refl _ | apply Drawn0.step)⟩
    ·rw [if_neg c5] at H
     have c5b0 : decide (255 < a0) = false := decide_eq_false c5
     clear c5
     by_cases c6 : a0 > 127
     ·rw [if_pos c6] at H
      have c6b0 : decide (127 < a0) = true := decide_eq_true c6
      clear c6
      obtain rfl := Option.some.inj H
      go_wp2
      go_ret
      exact ⟨by first | rfl | (simp; done) | (simp [*]; done) | (simp [wrap64]; done), by repeat (first | exact Drawn0.refl _ | apply Drawn0.step)⟩
     ·rw [if_neg c6] at H
      have c6b0 : decide (127 < a0) = false := decide_eq_false c6
      clear c6
      obtain rfl := Option.some.inj H
      go_wp2
      go_ret
      exact ⟨by first | rfl | (simp; done) | (simp [*]; done) | (simp [wrap64]; done), by repeat (first | exact Drawn0.refl _ | apply Drawn0.step)⟩
/-! ### ber_Get: function 51 -/
mutual
def ber_Get.j0 : Nat → ByteArray → Int → Bool → Option (Int × Int × Int)
 | 0, _, _, _ => none
 | k + 1, x0, x1, x17 => if x17 = true then (some (0, 0, 1)) else (if x1 = (x0.size : Int) then (some (0, 0, 2)) else (if 0 ≤ x1 then (if x1 < (x0.size : Int) then (if (wrap64 (bt x0 x1)) > 127 then (if (wrap64 (bt x0 x1)) = 128 then (some (0, 0, 14)) else (if (wrap64 (bt x0 x1)) > 130 then (some (0, 0, 14)) else (ber_Get.j1 k x0 (wrap64 (x1 + 1)) 0 (wrap64 ((wrap64 (bt x0 x1)) - 128))))) else (ber_Get.j1 k x0 (wrap64 (x1 + 1)) (wrap64 (bt x0 x1)) 0)) else (none)) else (none)))
def ber_Get.j1 : Nat → ByteArray → Int → Int → Int → Option (Int × Int × Int)
 | 0, _, _, _, _ => none
 | k + 1, x0, x1, x7, x8 => if (wrap64 ((x0.size : Int) - x1)) < x8 then (some (0, 0, 2)) else (ber_Get.l0 k x0 x1 x7 x8 x8 0)
def ber_Get.l0 : Nat → ByteArray → Int → Int → Int → Int → Int → Option (Int × Int × Int)
 | 0, _, _, _, _, _, _ => none
 | k + 1, x0, x1, x7, x8, x44, x45 => if x45 < x44 then (if 0 ≤ (wrap64 (x1 + x45)) then (if (wrap64 (x1 + x45)) < (x0.size : Int) then (ber_Get.l0 k x0 x1 (Go.bits .or .i64 (wrap64 (x7 * 256)) (wrap64 (bt x0 (wrap64 (x1 + x45))))) x8 x44 (wrap64 (x45 + 1))) else (none)) else (none)) else ((ber_Size.f k x7).bind fun t112 => (if t112 = (wrap64 (x8 + 1)) then (some (x7, wrap64 (x1 + x8), 0)) else (some (0, 0, 14))))
end
def ber_Get.f (k : Nat) (a0 : ByteArray) (a1 : Int) : Option (Int × Int × Int) := if a1 < 0 then (ber_Get.j0 k a0 a1 true) else (ber_Get.j0 k a0 a1 (decide (a1 > (a0.size : Int))))
theorem ber_Get.mono_l : ∀ k, (∀ y0 y1 y2, LeO (ber_Get.j0 k y0 y1 y2) (ber_Get.j0 (k + 1) y0 y1 y2)) ∧ (∀ y0 y1 y2 y3, LeO (ber_Get.j1 k y0 y1 y2 y3) (ber_Get.j1 (k + 1) y0 y1 y2 y3)) ∧ (∀ y0 y1 y2 y3 y4 y5, LeO (ber_Get.l0 k y0 y1 y2 y3 y4 y5) (ber_Get.l0 (k + 1) y0 y1 y2 y3 y4 y5))
 | 0 => ⟨fun _ _ _ r h => by simp [ber_Get.j0] at h, fun _ _ _ _ r h => by simp [ber_Get.j1] at h, fun _ _ _ _ _ _ r h => by simp [ber_Get.l0] at h⟩
 | k + 1 => by
  obtain ⟨ih0, ih1, ih2⟩ := ber_Get.mono_l k
  refine ⟨?_, ?_, ?_⟩
  ·intro y0 y1 y2
   unfold ber_Get.j0
   repeat' first
   | (with_reducible exact ih0 _ _ _)
   | (with_reducible exact ih1 _ _ _ _)
   | (with_reducible exact ih2 _ _ _ _ _ _)
   | (with_reducible exact ber_Size.mono _ _)
   | (with_reducible exact LeO.refl _)
   | (with_reducible exact LeO.none _)
   | (with_reducible refine LeO.ite ?_ ?_)
   | (with_reducible refine LeO.bind ?_ (fun _ => ?_))
   | exact ih0 _ _ _
   | exact ih1 _ _ _ _
   | exact ih2 _ _ _ _ _ _
   | exact ber_Size.mono _ _
   | exact LeO.none _
   | refine LeO.ite ?_ ?_
   | refine LeO.bind ?_ (fun _ => ?_)
  ·intro y0 y1 y2 y3
   unfold ber_Get.j1
   repeat' first
   | (with_reducible exact ih0 _ _ _)
   | (with_reducible exact ih1 _ _ _ _)
   | (with_reducible exact ih2 _ _ _ _ _ _)
   | (with_reducible exact ber_Size.mono _ _)
   | (with_reducible exact LeO.refl _)
   | (with_reducible exact LeO.none _)
   | (with_reducible refine LeO.ite ?_ ?_)
   | (with_reducible refine LeO.bind ?_ (fun _ => ?_))
   | exact ih0 _ _ _
   | exact ih1 _ _ _ _
   | exact ih2 _ _ _ _ _ _
   | exact ber_Size.mono _ _
   | exact LeO.none _
   | refine LeO.ite ?_ ?_
   | refine LeO.bind ?_ (fun _ => ?_)
  ·intro y0 y1 y2 y3 y4 y5
   unfold ber_Get.l0
   repeat' first
   | (with_reducible exact ih0 _ _ _)
   | (with_reducible exact ih1 _ _ _ _)
   | (with_reducible exact ih2 _ _ _ _ _ _)
   | (with_reducible exact ber_Size.mono _ _)
   | (with_reducible exact LeO.refl _)
   | (with_reducible exact LeO.none _)
   | (with_reducible refine LeO.ite ?_ ?_)
   | (with_reducible refine LeO.bind ?_ (fun _ => ?_))
   | exact ih0 _ _ _
   | exact ih1 _ _ _ _
   | exact ih2 _ _ _ _ _ _
   | exact ber_Size.mono _ _
   | exact LeO.none _
   | refine LeO.ite ?_ ?_
   | refine LeO.bind ?_ (fun _ => ?_)
theorem ber_Get.mono : ∀ a0 a1 k, LeO (ber_Get.f k a0 a1) (ber_Get.f (k + 1) a0 a1) := by
 intro a0 a1 k
 obtain ⟨ih0, ih1, ih2⟩ := ber_Get.mono_l k
 unfold ber_Get.f
 repeat' first
   | (with_reducible exact ih0 _ _ _)
   | (with_reducible exact ih1 _ _ _ _)
   | (with_reducible exact ih2 _ _ _ _ _ _)
   | (with_reducible exact ber_Size.mono _ _)
   | (with_reducible exact LeO.refl _)
   | (with_reducible exact LeO.none _)
   | (with_reducible refine LeO.ite ?_ ?_)
   | (with_reducible refine LeO.bind ?_ (fun _ => ?_))
   | exact ih0 _ _ _
   | exact ih1 _ _ _ _
   | exact ih2 _ _ _ _ _ _
   | exact ber_Size.mono _ _
   | exact LeO.none _
   | refine LeO.ite ?_ ?_
   | refine LeO.bind ?_ (fun _ => ?_)
set_option maxHeartbeats 8000000 in
set_option maxRecDepth 100000 in
theorem ber_Get.calls (k : Nat) (a0 : ByteArray) (a1 : Int) (r1 : Int) (r2 : Int) (r3 : Int) (w : World) (h : ber_Get.f k a0 a1 = some (r1, r2, r3)) :
  Calls Try.prog 51 #[.string a0, .int .i64 a1] w fun e w' => e = .returned (.tuple #[.int .i64 r1, .int .i64 r2, .int .i64 r3]) ∧ Drawn0 w w' := by
 have H : (if a1 < 0 then (ber_Get.j0 k a0 a1 true) else (ber_Get.j0 k a0 a1 (decide (a1 > (a0.size : Int))))) = some (r1, r2, r3) := h
 clear h
 have HC3 := Aside0.mk H
 clear H
 go_enter Try.func51, Try.ntmps51
 go_upto_region 1 with (fail)
 go_cut [17] (fun v17 wc => ∃ (kq : Nat) (x17_2 : Bool), v17 = .bool x17_2 ∧ Aside0 (ber_Get.j0 kq a0 a1 x17_2 = some (r1, r2, r3)) ∧ Aside0 (kq ≤ k) ∧ Drawn0 w wc)
 case first =>
  have H := HC3.out
  clear HC3
  by_cases c4 : a1 < 0
  ·rw [if_pos c4] at H
   have c4b0 : decide (a1 < 0) = true := decide_eq_true c4
   clear c4
   (first | rw [c4b0] | (simp only [i64_w, i32_w]; rw [c4b0]) | skip)
   have H' := Aside0.mk H
   clear H
   go_wp2
   go_meet
   case rel => exact ⟨_, (true), (by first | rfl | (simp; done) | (simp [*]; done) | (simp [wrap64]; done)), H', ⟨by first | omega | exact Nat.le_refl _⟩, by repeat (first | exact Drawn0.refl _ | apply Drawn0.step)⟩
  ·rw [if_neg c4] at H
   have c4b0 : decide (a1 < 0) = false := decide_eq_false c4
   clear c4
   (first | rw [c4b0] | (simp only [i64_w, i32_w]; rw [c4b0]) | skip)
   have H' := Aside0.mk H
   clear H
   go_wp2
   go_meet
   case rel => exact ⟨_, (decide (a1 > (a0.size : Int))), (by first | rfl | (simp; done) | (simp [*]; done) | (simp [wrap64]; done)), H', ⟨by first | omega | exact Nat.le_refl _⟩, by repeat (first | exact Drawn0.refl _ | apply Drawn0.step)⟩
 case rest =>
  clear HC3
  try clear p2
  try clear c4
  try clear c4b0
  obtain ⟨kq, x17_2, rfl, HA, HJ2, ⟨mc2, rfl⟩⟩ := hcut
  cases kq with
  | zero => exact absurd HA.out (by simp [ber_Get.j0])
  | succ kj2 =>
   have H := HA.out
   clear HA
   simp only [ber_Get.j0] at H
   by_cases c5 : x17_2 = true
   ·subst c5
    have H1 : (some (0, 0, 1)) = some (r1, r2, r3) := by rw [if_pos rfl] at H; exact H
    clear H
    have H := H1
    clear H1
    simp only [Option.some.injEq, Prod.mk.injEq] at H
    obtain ⟨rfl, rfl, rfl⟩ := H
    go_wp2
    go_ret3
    exact ⟨by first | rfl | (simp; done) | (simp [*]; done) | (simp [wrap64]; done), by repeat (first | exact Drawn0.refl _ | apply Drawn0.step)⟩
   ·replace c5 := Bool.eq_false_iff.mpr c5
    subst c5
    have H1 : (if a1 = (a0.size : Int) then (some (0, 0, 2)) else (if 0 ≤ a1 then (if a1 < (a0.size : Int) then (if (wrap64 (bt a0 a1)) > 127 then (if (wrap64 (bt a0 a1)) = 128 then (some (0, 0, 14)) else (if (wrap64 (bt a0 a1)) > 130 then (some (0, 0, 14)) else (ber_Get.j1 kj2 a0 (wrap64 (a1 + 1)) 0 (wrap64 ((wrap64 (bt a0 a1)) - 128))))) else (ber_Get.j1 kj2 a0 (wrap64 (a1 + 1)) (wrap64 (bt a0 a1)) 0)) else (none)) else (none))) = some (r1, r2, r3) := by rw [if_neg (show ¬ (false = true) by decide)] at H; exact H
    clear H
    have H := H1
    clear H1
    by_cases c6 : a1 = (a0.size : Int)
    ·rw [if_pos c6] at H
     have c6b0 : (a1 == (a0.size : Int)) = true := beq_iff_eq.mpr c6
     have c6b1 : (a1 != (a0.size : Int)) = false := bne_eq_false_iff_eq.mpr c6
     clear c6
     simp only [Option.some.injEq, Prod.mk.injEq] at H
     obtain ⟨rfl, rfl, rfl⟩ := H
     go_wp2
     go_ret3
     exact ⟨by first | rfl | (simp; done) | (simp [*]; done) | (simp [wrap64]; done), by repeat (first | exact Drawn0.refl _ | apply Drawn0.step)⟩
    ·rw [if_neg c6] at H
     have c6b0 : (a1 == (a0.size : Int)) = false := beq_eq_false_iff_ne.mpr c6
     have c6b1 : (a1 != (a0.size : Int)) = true := bne_iff_ne.mpr c6
     by_cases c7 : 0 ≤ a1
     ·rw [if_pos c7] at H
      have c7b0 : decide (0 ≤ a1) = true := decide_eq_true c7
      clear c7
      by_cases c8 : a1 < (a0.size : Int)
      ·rw [if_pos c8] at H
       have c8b0 : decide (a1 < (a0.size : Int)) = true := decide_eq_true c8
       clear c8
       have HC10 := Aside0.mk H
       clear H
       have p9 : 0 ≤ (a1 : Int) := of_decide_eq_true (by first | (with_reducible assumption) | assumption)
       have q9 : a1 < (a0.size : Int) := of_decide_eq_true (by first | (with_reducible assumption) | assumption)
       have hx9 := bt_at a0 a1
       replace p9 := eq_true p9
       replace q9 := eq_true q9
       go_upto_if 29 with (fail)
       go_cut [7, 8] (fun v7 v8 wc => ∃ (kq : Nat) (x7_9 : Int) (x8_9 : Int), v7 = .int .i64 x7_9 ∧ v8 = .int .i64 x8_9 ∧ Aside0 (ber_Get.j1 kq a0 (wrap64 (a1 + 1)) x7_9 x8_9 = some (r1, r2, r3)) ∧ Aside0 (kq ≤ kj2) ∧ Drawn0 w wc)
       case first =>
        have H := HC10.out
        clear HC10
        by_cases c11 : (wrap64 (bt a0 a1)) > 127
        ·rw [if_pos c11] at H
         have c11b0 : decide (127 < (wrap64 (bt a0 a1))) = true := decide_eq_true c11
         clear c11
         (first | rw [c11b0] | (simp only [i64_w, i32_w]; rw [c11b0]) | skip)
         by_cases c12 : (wrap64 (bt a0 a1)) = 128
         ·rw [if_pos c12] at H
          have c12b0 : ((wrap64 (bt a0 a1)) == 128) = true := beq_iff_eq.mpr c12
          have c12b1 : ((wrap64 (bt a0 a1)) != 128) = false := bne_eq_false_iff_eq.mpr c12
          clear c12
          simp only [Option.some.injEq, Prod.mk.injEq] at H
          obtain ⟨rfl, rfl, rfl⟩ := H
          go_wp2
          go_ret3
          exact ⟨by first | rfl | (simp; done) | (simp [*]; done) | (simp [wrap64]; done), by repeat (first | exact Drawn0.refl _ | apply Drawn0.step)⟩
         ·rw [if_neg c12] at H
          have c12b0 : ((wrap64 (bt a0 a1)) == 128) = false := beq_eq_false_iff_ne.mpr c12
          have c12b1 : ((wrap64 (bt a0 a1)) != 128) = true := bne_iff_ne.mpr c12
          by_cases c13 : (wrap64 (bt a0 a1)) > 130
          ·rw [if_pos c13] at H
           have c13b0 : decide (130 < (wrap64 (bt a0 a1))) = true := decide_eq_true c13
           clear c13
           simp only [Option.some.injEq, Prod.mk.injEq] at H
           obtain ⟨rfl, rfl, rfl⟩ := H
           go_wp2
           go_ret3
           exact ⟨by first | rfl | (simp; done) | (simp [*]; done) | (simp [wrap64]; done), by repeat (first | exact Drawn0.refl _ | apply Drawn0.step)⟩
          ·rw [if_neg c13] at H
           have c13b0 : decide (130 < (wrap64 (bt a0 a1))) = false := decide_eq_false c13
           clear c13
           have H' := Aside0.mk H
           clear H
           go_wp2
           go_meet
           case rel => exact ⟨_, (0), (wrap64 ((wrap64 (bt a0 a1)) - 128)), (by first | rfl | (simp; done) | (simp [*]; done) | (simp [wrap64]; done)), (by first | rfl | (simp; done) | (simp [*]; done) | (simp [wrap64]; done)), H', ⟨by have := HJ2.out; first | omega | exact Nat.le_refl _⟩, by repeat (first | exact Drawn0.refl _ | apply Drawn0.step)⟩
        ·rw [if_neg c11] at H
         have c11b0 : decide (127 < (wrap64 (bt a0 a1))) = false := decide_eq_false c11
         clear c11
         (first | rw [c11b0] | (simp only [i64_w, i32_w]; rw [c11b0]) | skip)
         have H' := Aside0.mk H
         clear H
         go_wp2
         go_meet
         case rel => exact ⟨_, (wrap64 (bt a0 a1)), (0), (by first | rfl | (simp; done) | (simp [*]; done) | (simp [wrap64]; done)), (by first | rfl | (simp; done) | (simp [*]; done) | (simp [wrap64]; done)), H', ⟨by have := HJ2.out; first | omega | exact Nat.le_refl _⟩, by repeat (first | exact Drawn0.refl _ | apply Drawn0.step)⟩
       case rest =>
        clear HC10
        try clear c1
        try clear c2
        try clear p2
        try clear c4
        try clear c4b0
        try clear c5
        try clear c6
        try clear c6b0
        try clear c6b1
        try clear p6
        try clear c7
        try clear c7b0
        try clear c8
        try clear c8b0
        try clear p9
        try clear q9
        try clear hx9
        try clear c11
        try clear c11b0
        try clear c12
        try clear c12b0
        try clear c12b1
        try clear c13
        try clear c13b0
        try clear p2
        try clear p9
        try clear q9
        obtain ⟨kq, x7_9, x8_9, rfl, rfl, HA, HJ9, ⟨mc9, rfl⟩⟩ := hcut
        cases kq with
        | zero => exact absurd HA.out (by simp [ber_Get.j1])
        | succ kj9 =>
         have H := HA.out
         clear HA
         simp only [ber_Get.j1] at H
         by_cases c14 : (wrap64 ((a0.size : Int) - (wrap64 (a1 + 1)))) < x8_9
         ·rw [if_pos c14] at H
          have c14b0 : decide ((wrap64 ((a0.size : Int) - (wrap64 (a1 + 1)))) < x8_9) = true := decide_eq_true c14
          clear c14
          simp only [Option.some.injEq, Prod.mk.injEq] at H
          obtain ⟨rfl, rfl, rfl⟩ := H
          go_wp2
          go_ret3
          exact ⟨by first | rfl | (simp; done) | (simp [*]; done) | (simp [wrap64]; done), by repeat (first | exact Drawn0.refl _ | apply Drawn0.step)⟩
         ·rw [if_neg c14] at H
          have c14b0 : decide ((wrap64 ((a0.size : Int) - (wrap64 (a1 + 1)))) < x8_9) = false := decide_eq_false c14
          clear c14
          have H' := Aside0.mk H
          clear H
          go_wp2
          go_loopg [7, 45] kj9 (fun kq v7 v45 w' => ∃ (x7_3 : Int) (x45_3 : Int), v7 = .int .i64 x7_3 ∧ v45 = .int .i64 x45_3 ∧ Aside0 (ber_Get.l0 kq a0 (wrap64 (a1 + 1)) x7_3 x8_9 x8_9 x45_3 = some (r1, r2, r3)) ∧ Aside0 (kq ≤ kj9) ∧ Drawn0 w w')
          case atStart => exact ⟨(x7_9), (0), (by first | rfl | (simp; done) | (simp [*]; done) | (simp [wrap64]; done)), (by first | rfl | (simp; done) | (simp [*]; done) | (simp [wrap64]; done)), H', ⟨Nat.le_refl _⟩, by repeat (first | exact Drawn0.refl _ | apply Drawn0.step)⟩
          case round =>
           clear H'
           try clear c1
           try clear c2
           try clear p2
           try clear c4
           try clear c4b0
           try clear c5
           try clear c6
           try clear c6b0
           try clear c6b1
           try clear p6
           try clear c7
           try clear c7b0
           try clear c8
           try clear c8b0
           try clear c9
           try clear p9
           try clear q9
           try clear hx9
           try clear c11
           try clear c11b0
           try clear c12
           try clear c12b0
           try clear c12b1
           try clear c13
           try clear c13b0
           try clear c14
           try clear c14b0
           try clear p2
           try clear p6
           try clear p9
           try clear q9
           obtain ⟨x7_3, x45_3, rfl, rfl, HA, HK3, ⟨m3, rfl⟩⟩ := hrel
           cases gk with
           | zero => exact absurd HA.out (by simp [ber_Get.l0])
           | succ k3 =>
            have H := HA.out
            clear HA
            simp only [ber_Get.l0] at H
            by_cases c15 : x45_3 < x8_9
            ·rw [if_pos c15] at H
             have c15b0 : decide (x45_3 < x8_9) = true := decide_eq_true c15
             clear c15
             obtain ⟨ji16, hji16⟩ : ∃ j_ : Int, (wrap64 ((wrap64 (a1 + 1)) + x45_3)) = j_ := ⟨_, rfl⟩
             replace H : (if 0 ≤ (ji16) then (if (ji16) < (a0.size : Int) then (ber_Get.l0 k3 a0 (wrap64 (a1 + 1)) (Go.bits .or .i64 (wrap64 (x7_3 * 256)) (wrap64 (bt a0 (ji16)))) x8_9 x8_9 (wrap64 (x45_3 + 1))) else (none)) else (none)) = some (r1, r2, r3) := by first | (rw [hji16] at H; exact H) | (simp only [hji16] at H ⊢; exact H)
             have hji16w : (IntKind.i64.wrap ((wrap64 (a1 + 1)) + x45_3)) = ji16 := (i64_w _).trans hji16
             by_cases c17 : 0 ≤ (ji16)
             ·rw [if_pos c17] at H
              have c17b0 : decide (0 ≤ (ji16)) = true := decide_eq_true c17
              clear c17
              by_cases c18 : (ji16) < (a0.size : Int)
              ·rw [if_pos c18] at H
               have c18b0 : decide ((ji16) < (a0.size : Int)) = true := decide_eq_true c18
               clear c18
               have H' := Aside0.mk H
               clear H
               have p19 : 0 ≤ ((ji16) : Int) := of_decide_eq_true (by first | (with_reducible assumption) | assumption)
               have q19 : (ji16) < (a0.size : Int) := of_decide_eq_true (by first | (with_reducible assumption) | assumption)
               have hx19 := bt_at a0 (ji16)
               replace p19 := eq_true p19
               replace q19 := eq_true q19
               go_wp2
               go_roundg k3
               case measure => have := HJ2.out; have := HJ9.out; have := HK3.out; omega
               case rel => exact ⟨(Go.bits .or .i64 (wrap64 (x7_3 * 256)) (wrap64 (bt a0 (ji16)))), (wrap64 (x45_3 + 1)), (by first | rfl | (simp; done) | (simp only [← hji16] <;> (first | rfl | simp)) | (simp [*]; done)), (by first | rfl | (simp; done) | (simp [*]; done) | (simp [wrap64]; done)), H', ⟨by have := HJ2.out; have := HJ9.out; have := HK3.out; omega⟩, by repeat (first | exact Drawn0.refl _ | apply Drawn0.step)⟩
              ·rw [if_neg c18] at H
               exact absurd H (by simp)
             ·rw [if_neg c17] at H
              exact absurd H (by simp)
            ·rw [if_neg c15] at H
             have c15b0 : decide (x45_3 < x8_9) = false := decide_eq_false c15
             clear c15
             replace H := Option.bind_eq_some_iff.mp H
             obtain ⟨t112, A200, H⟩ := H
             replace H : (if t112 = (wrap64 (x8_9 + 1)) then (some (x7_3, wrap64 ((wrap64 (a1 + 1)) + x8_9), 0)) else (some (0, 0, 14))) = some (r1, r2, r3) := H
             have A20 := Aside0.mk A200
             clear A200
             by_cases c21 : t112 = (wrap64 (x8_9 + 1))
             ·rw [if_pos c21] at H
              have c21b0 : (t112 == (wrap64 (x8_9 + 1))) = true := beq_iff_eq.mpr c21
              have c21b1 : (t112 != (wrap64 (x8_9 + 1))) = false := bne_eq_false_iff_eq.mpr c21
              clear c21
              simp only [Option.some.injEq, Prod.mk.injEq] at H
              obtain ⟨rfl, rfl, rfl⟩ := H
              go_wp2_with (first | ((with_reducible refine gate_callee (f := 70) rfl ?_); refine goesL_ (some 59) rfl rfl Try.func70 (by kernel_rfl) rfl #[.int .i64 x7_3] rfl (by (try simp only [List.map_toArray, List.map_cons, List.map_nil]); first | done | rfl | (simp only [List.length_drop, List.length_take]; rfl)) ?_; (with_reducible refine (ber_Size.calls k3 x7_3 t112 _ A20.out).mono ?_); rintro e w' ⟨rfl, ⟨nd, rfl⟩⟩; refine ⟨_, rfl, ?_⟩))
              go_ret3
              exact ⟨by first | rfl | (simp; done) | (simp [*]; done) | (simp [wrap64]; done), by repeat (first | exact Drawn0.refl _ | apply Drawn0.step)⟩
             ·rw [if_neg c21] at H
              have c21b0 : (t112 == (wrap64 (x8_9 + 1))) = false := beq_eq_false_iff_ne.mpr c21
              have c21b1 : (t112 != (wrap64 (x8_9 + 1))) = true := bne_iff_ne.mpr c21
              simp only [Option.some.injEq, Prod.mk.injEq] at H
              obtain ⟨rfl, rfl, rfl⟩ := H
              go_wp2_with (first | ((with_reducible refine gate_callee (f := 70) rfl ?_); refine goesL_ (some 59) rfl rfl Try.func70 (by kernel_rfl) rfl #[.int .i64 x7_3] rfl (by (try simp only [List.map_toArray, List.map_cons, List.map_nil]); first | done | rfl | (simp only [List.length_drop, List.length_take]; rfl)) ?_; (with_reducible refine (ber_Size.calls k3 x7_3 t112 _ A20.out).mono ?_); rintro e w' ⟨rfl, ⟨nd, rfl⟩⟩; refine ⟨_, rfl, ?_⟩))
              go_ret3
              exact ⟨by first | rfl | (simp; done) | (simp [*]; done) | (simp [wrap64]; done), by repeat (first | exact Drawn0.refl _ | apply Drawn0.step)⟩
      ·rw [if_neg c8] at H
       exact absurd H (by simp)
     ·rw [if_neg c7] at H
      exact absurd H (by simp)
/-! ### tlv_Get: function 28 (by hand) -/
theorem tlv_Get.wf {t : Int} (h : 0 ≤ t ∧ t ≤ 65535) : (Lit.int .i64 t).wf = true := by
 have e1 : IntKind.i64.min = -9223372036854775808 := rfl
 have e2 : IntKind.i64.max = 9223372036854775807 := rfl
 simp [Lit.wf]; omega
def tlv_Get.l0 : Nat → ByteArray → List (S74) → Int → Option ((List (S74)) × Int × Int)
 | 0, _, _, _ => none
 | k + 1, x0, x5, x6 => if x6 < (x0.size : Int) then ((tag_Get.f k x0 x6).bind fun bt1 => (if bt1.2.2 = 0 then ((ber_Get.f k x0 bt1.2.1).bind fun bt2 => (if bt2.2.2 = 0 then (if (wrap64 ((x0.size : Int) - bt2.2.1)) < bt2.1 then (some (([] : List (S74)), 2, (x0.size : Int))) else (if 0 ≤ bt1.1 ∧ bt1.1 ≤ 65535 then (if x5.length < 5864062014805 then (if x5.any (fun x => x.f0 == bt1.1) = true then (some (([] : List (S74)), 10, x6)) else (if 0 ≤ bt2.2.1 then (if bt2.2.1 ≤ (wrap64 (bt2.2.1 + bt2.1)) then (if (wrap64 (bt2.2.1 + bt2.1)) ≤ (x0.size : Int) then (tlv_Get.l0 k x0 (x5 ++ [(⟨bt1.1, x0.extract (bt2.2.1 : Int).toNat ((wrap64 (bt2.2.1 + bt2.1)) : Int).toNat⟩ : S74)]) (wrap64 (bt2.2.1 + bt2.1))) else (none)) else (none)) else (none))) else (none)) else (none))) else (some (([] : List (S74)), bt2.2.2, bt1.2.1)))) else (some (([] : List (S74)), bt1.2.2, x6)))) else (some (x5, 0, 0))
def tlv_Get.f (k : Nat) (a0 : ByteArray) : Option ((List (S74)) × Int × Int) := tlv_Get.l0 k a0 (([] : List (S74))) 0
theorem tlv_Get.mono_l : ∀ k, (∀ y0 y1 y2, LeO (tlv_Get.l0 k y0 y1 y2) (tlv_Get.l0 (k + 1) y0 y1 y2))
 | 0 => fun _ _ _ r h => by simp [tlv_Get.l0] at h
 | k + 1 => by
  have ih0 := tlv_Get.mono_l k
  ·intro y0 y1 y2
   unfold tlv_Get.l0
   repeat' first
   | (with_reducible exact ih0 _ _ _)
   | (with_reducible exact tag_Get.mono _ _ _)
   | (with_reducible exact ber_Get.mono _ _ _)
   | (with_reducible exact LeO.refl _)
   | (with_reducible exact LeO.none _)
   | (with_reducible refine LeO.ite ?_ ?_)
   | (with_reducible refine LeO.bind ?_ (fun _ => ?_))
   | exact ih0 _ _ _
   | exact tag_Get.mono _ _ _
   | exact ber_Get.mono _ _ _
   | exact LeO.none _
   | refine LeO.ite ?_ ?_
   | refine LeO.bind ?_ (fun _ => ?_)
theorem tlv_Get.mono : ∀ a0 k, LeO (tlv_Get.f k a0) (tlv_Get.f (k + 1) a0) := fun a0 k => tlv_Get.mono_l k _ _ _
theorem tlv_Get.zeroB (w : World) : (zeroValue 4).run Try.prog w = .ok (.bool false) w := by kernel_rfl
theorem tlv_Get.any_snoc (l : List (S74)) (t z : Int) (v : ByteArray) : (l.any (fun x => x.f0 == t) || t == z) = (l ++ [(⟨z, v⟩ : S74)]).any (fun x => x.f0 == t) := by
 rw [List.any_append]
 congr 1
 simp only [List.any_cons, List.any_nil, Bool.or_false]
 rw [Bool.eq_iff_iff]
 simp only [beq_iff_eq]
 exact eq_comm
theorem tlv_Get.belowPut {w w1 w2 : World} (h : Below w.heap.size w w1) (hg : w1.grownBy w2 (some w.heap.size)) : Below w.heap.size w w2 := h.grown hg (below_size h) (fun j hj => by cases hj; exact Nat.le_refl _)
set_option maxHeartbeats 8000000 in
set_option maxRecDepth 100000 in
theorem tlv_Get.calls (k : Nat) (a0 : ByteArray) (r1 : List (S74)) (r2 : Int) (r3 : Int) (w : World) (h : tlv_Get.f k a0 = some (r1, r2, r3)) :
  Calls Try.prog 28 #[.string a0] w fun e w' => ∃ v0_ : Value, e = .returned (.tuple #[v0_, .int .i64 r2, .int .i64 r3]) ∧ Kd.R k74 74 w' w.heap.size (fun _ => True) v0_ r1 ∧ Below w.heap.size w w' := by
 have hmm := @run_makeMap Try.prog
 have H' : Aside0 (tlv_Get.l0 k a0 (([] : List (S74))) 0 = some (r1, r2, r3)) := ⟨h⟩
 clear h
 go_enter Try.func28, Try.ntmps28
 go_wp2
 go_loopg [5, 7] k (fun kq v5 v6 w' => ∃ (x5_1 : List (S74)) (x6_1 : Int), v6 = .int .i64 x6_1 ∧ Aside0 (tlv_Get.l0 kq a0 x5_1 x6_1 = some (r1, r2, r3)) ∧ Aside0 (kq ≤ k) ∧ Aside0 (Kd.R k74 74 w' w.heap.size (fun _ => True) v5 x5_1) ∧ Aside0 (Mp.SetMap Try.prog 3 4 w' w.heap.size x5_1.length (fun t => x5_1.any (fun x => x.f0 == t))) ∧ Aside0 (Below w.heap.size w w'))
 case atStart => exact ⟨[], 0, rfl, H', ⟨Nat.le_refl _⟩, ⟨Kd.R_nil _ _ _ _ _⟩, ⟨Mp.made w⟩, ⟨(Below.refl _ _).alloc (Nat.le_refl _) _⟩⟩
 case round =>
  clear H' hmm
  obtain ⟨x5_1, x6_1, rfl, HA, HK1, HO_5, HM, HB⟩ := hrel
  cases gk with
  | zero => exact absurd HA.out (by simp [tlv_Get.l0])
  | succ k1 =>
   have H := HA.out
   clear HA
   simp only [tlv_Get.l0] at H
   obtain ⟨Ao, co, eo⟩ := Kd.R_slice HO_5.out
   subst eo
   by_cases c4 : x6_1 < (a0.size : Int)
   ·rw [if_pos c4] at H
    have c4b0 : decide (x6_1 < (a0.size : Int)) = true := decide_eq_true c4
    clear c4
    replace H := Option.bind_eq_some_iff.mp H
    obtain ⟨⟨t136, t137, t138⟩, A50, H⟩ := H
    dsimp only at H
    have A5 := Aside0.mk A50
    clear A50
    by_cases c6 : t138 = 0
    ·rw [if_pos c6] at H
     have c6b0 : (t138 == 0) = true := beq_iff_eq.mpr c6
     have c6b1 : (t138 != 0) = false := bne_eq_false_iff_eq.mpr c6
     clear c6
     replace H := Option.bind_eq_some_iff.mp H
     obtain ⟨⟨t139, t140, t141⟩, A70, H⟩ := H
     dsimp only at H
     have A7 := Aside0.mk A70
     clear A70
     by_cases c8 : t141 = 0
     ·rw [if_pos c8] at H
      have c8b0 : (t141 == 0) = true := beq_iff_eq.mpr c8
      have c8b1 : (t141 != 0) = false := bne_eq_false_iff_eq.mpr c8
      clear c8
      by_cases c9 : (wrap64 ((a0.size : Int) - t140)) < t139
      ·rw [if_pos c9] at H
       have c9b0 : decide ((wrap64 ((a0.size : Int) - t140)) < t139) = true := decide_eq_true c9
       clear c9
       simp only [Option.some.injEq, Prod.mk.injEq] at H
       obtain ⟨rfl, rfl, rfl⟩ := H
       go_wp2_with (first | ((with_reducible refine gate_callee (f := 50) rfl ?_); refine goesL_ (some 21) rfl rfl Try.func50 (by kernel_rfl) rfl #[.string a0, .int .i64 x6_1] rfl (by (try simp only [List.map_toArray, List.map_cons, List.map_nil]); first | done | rfl | (simp only [List.length_drop, List.length_take]; rfl)) ?_; (with_reducible refine (tag_Get.calls k1 a0 x6_1 t136 t137 t138 _ A5.out).mono ?_); rintro e w' ⟨rfl, ⟨nd, rfl⟩⟩; refine ⟨_, rfl, ?_⟩) | ((with_reducible refine gate_callee (f := 51) rfl ?_); refine goesL_ (some 32) rfl rfl Try.func51 (by kernel_rfl) rfl #[.string a0, .int .i64 t137] rfl (by (try simp only [List.map_toArray, List.map_cons, List.map_nil]); first | done | rfl | (simp only [List.length_drop, List.length_take]; rfl)) ?_; (with_reducible refine (ber_Get.calls k1 a0 t137 t139 t140 t141 _ A7.out).mono ?_); rintro e w' ⟨rfl, ⟨nd, rfl⟩⟩; refine ⟨_, rfl, ?_⟩))
       go_ret3
       exact ⟨_, rfl, Kd.R_nil _ _ _ _ _, by repeat (first | (with_reducible first | exact HB.out | apply below_alloc | apply pw_below_drewN | apply below_drew1) | exact HB.out)⟩
      ·rw [if_neg c9] at H
       have c9b0 : decide ((wrap64 ((a0.size : Int) - t140)) < t139) = false := decide_eq_false c9
       clear c9
       by_cases cw : 0 ≤ t136 ∧ t136 ≤ 65535
       ·rw [if_pos cw] at H
        have HW := Aside0.mk (tlv_Get.wf cw)
        clear cw
        by_cases cl : x5_1.length < 5864062014805
        ·rw [if_pos cl] at H
         have LM := Aside0.mk cl
         clear cl
         by_cases c11 : x5_1.any (fun x => x.f0 == t136) = true
         ·rw [if_pos c11] at H
          have HC := Aside0.mk c11
          clear c11
          simp only [Option.some.injEq, Prod.mk.injEq] at H
          obtain ⟨rfl, rfl, rfl⟩ := H
          go_wp2_with (first | ((with_reducible refine gate_callee (f := 50) rfl ?_); refine goesL_ (some 21) rfl rfl Try.func50 (by kernel_rfl) rfl #[.string a0, .int .i64 x6_1] rfl (by (try simp only [List.map_toArray, List.map_cons, List.map_nil]); first | done | rfl | (simp only [List.length_drop, List.length_take]; rfl)) ?_; (with_reducible refine (tag_Get.calls k1 a0 x6_1 t136 t137 t138 _ A5.out).mono ?_); rintro e w' ⟨rfl, ⟨nd, rfl⟩⟩; refine ⟨_, rfl, ?_⟩) | ((with_reducible refine gate_callee (f := 51) rfl ?_); refine goesL_ (some 32) rfl rfl Try.func51 (by kernel_rfl) rfl #[.string a0, .int .i64 t137] rfl (by (try simp only [List.map_toArray, List.map_cons, List.map_nil]); first | done | rfl | (simp only [List.length_drop, List.length_take]; rfl)) ?_; (with_reducible refine (ber_Get.calls k1 a0 t137 t139 t140 t141 _ A7.out).mono ?_); rintro e w' ⟨rfl, ⟨nd, rfl⟩⟩; refine ⟨_, rfl, ?_⟩) | (at_lookup; refine Mp.wpList_look (b := w.heap.size) (n := x5_1.length) (mem := fun t => x5_1.any (fun x => x.f0 == t)) (by (with_reducible repeat (first | apply Mp.SetMap.alloc | apply Mp.SetMap.drewN | apply Mp.SetMap.drew)); exact HM.out) rfl _ _ _ rfl Try.underlying3 Try.underlying71 Try.underlying4 (tlv_Get.zeroB _) rfl t136 rfl HW.out (c := true) HC.out ?_))
          go_ret3
          exact ⟨_, rfl, Kd.R_nil _ _ _ _ _, by repeat (first | (with_reducible first | exact HB.out | apply below_alloc | apply pw_below_drewN | apply below_drew1) | exact HB.out)⟩
         ·rw [if_neg c11] at H
          have HC := Aside0.mk (Bool.eq_false_iff.mpr c11)
          clear c11
          by_cases c13 : 0 ≤ t140
          ·rw [if_pos c13] at H
           have c13b0 := eq_true c13
           have c13b1 : decide (0 ≤ t140) = true := decide_eq_true c13
           clear c13
           by_cases c14 : t140 ≤ (wrap64 (t140 + t139))
           ·rw [if_pos c14] at H
            have c14b0 := eq_true c14
            have c14b1 : decide (t140 ≤ (wrap64 (t140 + t139))) = true := decide_eq_true c14
            by_cases c15 : (wrap64 (t140 + t139)) ≤ (a0.size : Int)
            ·rw [if_pos c15] at H
             have c15b0 := eq_true c15
             have c15b1 : decide ((wrap64 (t140 + t139)) ≤ (a0.size : Int)) = true := decide_eq_true c15
             obtain ⟨y143, hy143⟩ : ∃ y_ : List (S74), y_ = (x5_1 ++ [(⟨t136, a0.extract (t140 : Int).toNat ((wrap64 (t140 + t139)) : Int).toNat⟩ : S74)]) := ⟨_, rfl⟩
             rw [← hy143] at H
             have Ny143 := Aside0.mk hy143
             have HY : Aside0 (x5_1.length + 1 = y143.length ∧ ∀ t, (x5_1.any (fun x => x.f0 == t) || t == t136) = y143.any (fun x => x.f0 == t)) := ⟨by rw [hy143]; exact ⟨by simp, fun t => tlv_Get.any_snoc _ _ _ _⟩⟩
             clear hy143
             have H' := Aside0.mk H
             clear H
             go_wp2_with (first | ((with_reducible refine gate_callee (f := 50) rfl ?_); refine goesL_ (some 21) rfl rfl Try.func50 (by kernel_rfl) rfl #[.string a0, .int .i64 x6_1] rfl (by (try simp only [List.map_toArray, List.map_cons, List.map_nil]); first | done | rfl | (simp only [List.length_drop, List.length_take]; rfl)) ?_; (with_reducible refine (tag_Get.calls k1 a0 x6_1 t136 t137 t138 _ A5.out).mono ?_); rintro e w' ⟨rfl, ⟨nd, rfl⟩⟩; refine ⟨_, rfl, ?_⟩) | ((with_reducible refine gate_callee (f := 51) rfl ?_); refine goesL_ (some 32) rfl rfl Try.func51 (by kernel_rfl) rfl #[.string a0, .int .i64 t137] rfl (by (try simp only [List.map_toArray, List.map_cons, List.map_nil]); first | done | rfl | (simp only [List.length_drop, List.length_take]; rfl)) ?_; (with_reducible refine (ber_Get.calls k1 a0 t137 t139 t140 t141 _ A7.out).mono ?_); rintro e w' ⟨rfl, ⟨nd, rfl⟩⟩; refine ⟨_, rfl, ?_⟩) | (at_lookup; refine Mp.wpList_look (b := w.heap.size) (n := x5_1.length) (mem := fun t => x5_1.any (fun x => x.f0 == t)) (by (with_reducible repeat (first | apply Mp.SetMap.alloc | apply Mp.SetMap.drewN | apply Mp.SetMap.drew)); exact HM.out) rfl _ _ _ rfl Try.underlying3 Try.underlying71 Try.underlying4 (tlv_Get.zeroB _) rfl t136 rfl HW.out (c := false) HC.out ?_) | (at_mapUpdate; refine Mp.wpList_put (b := w.heap.size) (n := x5_1.length) (mem := fun t => x5_1.any (fun x => x.f0 == t)) (by (with_reducible repeat (first | apply Mp.SetMap.alloc | apply Mp.SetMap.drewN | apply Mp.SetMap.drew)); exact HM.out) rfl _ _ _ _ rfl Try.underlying3 Try.underlying71 Try.underlying4 (by have := LM.out; omega) rfl t136 rfl rfl HW.out ?_; intro w1 hm1 hg1; have n0_ := Aside0.mk (hm1.congr HY.out.2); have n1_ := Aside0.mk (Mp.R_put (by (with_reducible repeat (first | apply Kd.R_alloc | apply Kd.R_drewN | apply Kd.R_drew)); exact HO_5.out) (by (with_reducible repeat (first | apply Mp.SetMap.alloc | apply Mp.SetMap.drewN | apply Mp.SetMap.drew)); exact HM.out) hg1); have n2_ := Aside0.mk (tlv_Get.belowPut (by repeat (first | (with_reducible first | exact HB.out | apply below_alloc | apply pw_below_drewN | apply below_drew1) | exact HB.out)) hg1); clear HM HO_5 HB hm1 hg1; have HM := n0_; have HO_5 := n1_; have HB := n2_; clear n0_ n1_ n2_) | ((with_reducible refine gate_builtin (b := .append) (xs := #[.tmp 57, .tmp 66]) rfl ?_); at_builtin; refine Kd.R_append k74 (w0 := w) w.heap.size rfl (.tmp 57) (.tmp 66) 48 74 (.agg #[(.int .i64 0), (.string ⟨#[]⟩)]) 24 rfl Try.underlying48 info74 rfl (by decide) (by omega) (.slice Ao x5_1.length co) x5_1 (⟨t136, a0.extract (t140 : Int).toNat ((wrap64 (t140 + t139)) : Int).toNat⟩ : S74) [.int .i64 t136, .string (a0.extract (t140 : Int).toNat ((wrap64 (t140 + t139)) : Int).toNat)] (fun _ => True) (fun _ => False) rfl rfl ?aP (fun _ hk => hk.elim) ?aF ?aO ?aB ?aS ?aL ?_; (case aP => exact k74_mkM _ _ _ (⟨t136, a0.extract (t140 : Int).toNat ((wrap64 (t140 + t139)) : Int).toNat⟩ : S74)); (case aB => exact (by repeat (first | (with_reducible first | exact HB.out | apply below_alloc | apply pw_below_drewN | apply below_drew1) | exact HB.out))); (case aF => exact (fun _ _ => trivial)); (case aO => exact (by (with_reducible repeat (first | apply Kd.R_alloc | apply Kd.R_drewN | apply Kd.R_drew)); exact HO_5.out)); (case aS => exact (below_size (by repeat (first | (with_reducible first | exact HB.out | apply below_alloc | apply pw_below_drewN | apply below_drew1) | exact HB.out)))); (case aL => have := LM.out; omega); intro v144 w18 ho hb hg hat; rw [← Ny143.out] at ho; have n2_ := Aside0.mk ((Mp.SetMap.beside (by (with_reducible repeat (first | apply Mp.SetMap.alloc | apply Mp.SetMap.drewN | apply Mp.SetMap.drew)); exact HM.out) (by (with_reducible repeat (first | apply Kd.R_alloc | apply Kd.R_drewN | apply Kd.R_drew)); exact HO_5.out) hg).mono (Nat.le_of_eq HY.out.1)); have n0_ := Aside0.mk (hb); have n1_ := Aside0.mk (ho); clear HB HO_5 HM; have HB := n0_; have HO145 := n1_; have HM := n2_; clear n0_ n1_ n2_; clear ho hb hg hat))
             go_roundg k1
             case measure => have := HK1.out; omega
             case rel => exact ⟨(y143), (wrap64 (t140 + t139)), (by first | rfl | (simp; done) | (simp [*]; done)), H', ⟨by have := HK1.out; omega⟩, ⟨by (with_reducible repeat (first | apply Kd.R_alloc | apply Kd.R_drewN | apply Kd.R_drew)); exact HO145.out⟩, ⟨by (with_reducible repeat (first | apply Mp.SetMap.alloc | apply Mp.SetMap.drewN | apply Mp.SetMap.drew)); exact HM.out⟩, ⟨by repeat (first | (with_reducible first | exact HB.out | apply below_alloc | apply pw_below_drewN | apply below_drew1) | exact HB.out)⟩⟩
            ·rw [if_neg c15] at H
             exact absurd H (by simp)
           ·rw [if_neg c14] at H
            exact absurd H (by simp)
          ·rw [if_neg c13] at H
           exact absurd H (by simp)
        ·rw [if_neg cl] at H
         exact absurd H (by simp)
       ·rw [if_neg cw] at H
        exact absurd H (by simp)
     ·rw [if_neg c8] at H
      have c8b0 : (t141 == 0) = false := beq_eq_false_iff_ne.mpr c8
      have c8b1 : (t141 != 0) = true := bne_iff_ne.mpr c8
      simp only [Option.some.injEq, Prod.mk.injEq] at H
      obtain ⟨rfl, rfl, rfl⟩ := H
      go_wp2_with (first | ((with_reducible refine gate_callee (f := 50) rfl ?_); refine goesL_ (some 21) rfl rfl Try.func50 (by kernel_rfl) rfl #[.string a0, .int .i64 x6_1] rfl (by (try simp only [List.map_toArray, List.map_cons, List.map_nil]); first | done | rfl | (simp only [List.length_drop, List.length_take]; rfl)) ?_; (with_reducible refine (tag_Get.calls k1 a0 x6_1 t136 t137 t138 _ A5.out).mono ?_); rintro e w' ⟨rfl, ⟨nd, rfl⟩⟩; refine ⟨_, rfl, ?_⟩) | ((with_reducible refine gate_callee (f := 51) rfl ?_); refine goesL_ (some 32) rfl rfl Try.func51 (by kernel_rfl) rfl #[.string a0, .int .i64 t137] rfl (by (try simp only [List.map_toArray, List.map_cons, List.map_nil]); first | done | rfl | (simp only [List.length_drop, List.length_take]; rfl)) ?_; (with_reducible refine (ber_Get.calls k1 a0 t137 t139 t140 t141 _ A7.out).mono ?_); rintro e w' ⟨rfl, ⟨nd, rfl⟩⟩; refine ⟨_, rfl, ?_⟩))
      go_ret3
      exact ⟨_, rfl, Kd.R_nil _ _ _ _ _, by repeat (first | (with_reducible first | exact HB.out | apply below_alloc | apply pw_below_drewN | apply below_drew1) | exact HB.out)⟩
    ·rw [if_neg c6] at H
     have c6b0 : (t138 == 0) = false := beq_eq_false_iff_ne.mpr c6
     have c6b1 : (t138 != 0) = true := bne_iff_ne.mpr c6
     simp only [Option.some.injEq, Prod.mk.injEq] at H
     obtain ⟨rfl, rfl, rfl⟩ := H
     go_wp2_with (first | ((with_reducible refine gate_callee (f := 50) rfl ?_); refine goesL_ (some 21) rfl rfl Try.func50 (by kernel_rfl) rfl #[.string a0, .int .i64 x6_1] rfl (by (try simp only [List.map_toArray, List.map_cons, List.map_nil]); first | done | rfl | (simp only [List.length_drop, List.length_take]; rfl)) ?_; (with_reducible refine (tag_Get.calls k1 a0 x6_1 t136 t137 t138 _ A5.out).mono ?_); rintro e w' ⟨rfl, ⟨nd, rfl⟩⟩; refine ⟨_, rfl, ?_⟩))
     go_ret3
     exact ⟨_, rfl, Kd.R_nil _ _ _ _ _, by repeat (first | (with_reducible first | exact HB.out | apply below_alloc | apply pw_below_drewN | apply below_drew1) | exact HB.out)⟩
   ·rw [if_neg c4] at H
    have c4b0 : decide (x6_1 < (a0.size : Int)) = false := decide_eq_false c4
    clear c4
    simp only [Option.some.injEq, Prod.mk.injEq] at H
    obtain ⟨rfl, rfl, rfl⟩ := H
    go_wp2
    go_ret3
    exact ⟨_, rfl, by (with_reducible repeat (first | apply Kd.R_alloc | apply Kd.R_drewN | apply Kd.R_drew)); exact HO_5.out, by repeat (first | (with_reducible first | exact HB.out | apply below_alloc | apply pw_below_drewN | apply below_drew1) | exact HB.out)⟩
/-! ### spec_Value: function 16 -/
def spec_Value.j0 : Nat → ByteArray → Bool → Int → Int → Int → Int → Int → Option (Int)
 | 0, _, _, _, _, _, _, _ => none
 | k + 1, x1, x12, x114000, x114001, x114002, x114003, x114004 => if x12 = true then (some 5) else ((class_First.f k x114001 x1).bind fun t115 => (if t115 ≥ 0 then (some 6) else (if x114001 = 6 then ((tlv_Get.f k x1).bind fun bt116 => (if bt116.2.1 = 0 then (some 0) else (some 13))) else (some 0))))
def spec_Value.f (k : Nat) (a0_0 : Int) (a0_1 : Int) (a0_2 : Int) (a0_3 : Int) (a0_4 : Int) (a1 : ByteArray) : Option (Int) := (spec_Check.f k a0_0 a0_1 a0_2 a0_3 a0_4).bind fun t114 => (if t114 = 0 then (if (a1.size : Int) < a0_3 then (spec_Value.j0 k a1 true a0_0 a0_1 a0_2 a0_3 a0_4) else (spec_Value.j0 k a1 (decide ((a1.size : Int) > a0_4)) a0_0 a0_1 a0_2 a0_3 a0_4)) else (some 1))
theorem spec_Value.mono_l : ∀ k, (∀ y0 y1 y2 y3 y4 y5 y6, LeO (spec_Value.j0 k y0 y1 y2 y3 y4 y5 y6) (spec_Value.j0 (k + 1) y0 y1 y2 y3 y4 y5 y6))
 | 0 => fun _ _ _ _ _ _ _ r h => by simp [spec_Value.j0] at h
 | k + 1 => by
  have ih0 := spec_Value.mono_l k
  ·intro y0 y1 y2 y3 y4 y5 y6
   unfold spec_Value.j0
   repeat' first
   | (with_reducible exact ih0 _ _ _ _ _ _ _)
   | (with_reducible exact class_First.mono _ _ _)
   | (with_reducible exact spec_Check.mono _ _ _ _ _ _)
   | (with_reducible exact tlv_Get.mono _ _)
   | (with_reducible exact LeO.refl _)
   | (with_reducible exact LeO.none _)
   | (with_reducible refine LeO.ite ?_ ?_)
   | (with_reducible refine LeO.bind ?_ (fun _ => ?_))
   | exact ih0 _ _ _ _ _ _ _
   | exact class_First.mono _ _ _
   | exact spec_Check.mono _ _ _ _ _ _
   | exact tlv_Get.mono _ _
   | exact LeO.none _
   | refine LeO.ite ?_ ?_
   | refine LeO.bind ?_ (fun _ => ?_)
theorem spec_Value.mono : ∀ a0 a1 a2 a3 a4 a5 k, LeO (spec_Value.f k a0 a1 a2 a3 a4 a5) (spec_Value.f (k + 1) a0 a1 a2 a3 a4 a5) := by
 intro a0 a1 a2 a3 a4 a5 k
 have ih0 := spec_Value.mono_l k
 unfold spec_Value.f
 repeat' first
   | (with_reducible exact ih0 _ _ _ _ _ _ _)
   | (with_reducible exact class_First.mono _ _ _)
   | (with_reducible exact spec_Check.mono _ _ _ _ _ _)
   | (with_reducible exact tlv_Get.mono _ _)
   | (with_reducible exact LeO.refl _)
   | (with_reducible exact LeO.none _)
   | (with_reducible refine LeO.ite ?_ ?_)
   | (with_reducible refine LeO.bind ?_ (fun _ => ?_))
   | exact ih0 _ _ _ _ _ _ _
   | exact class_First.mono _ _ _
   | exact spec_Check.mono _ _ _ _ _ _
   | exact tlv_Get.mono _ _
   | exact LeO.none _
   | refine LeO.ite ?_ ?_
   | refine LeO.bind ?_ (fun _ => ?_)
set_option maxHeartbeats 8000000 in
set_option maxRecDepth 100000 in
theorem spec_Value.calls (k : Nat) (a0_0 : Int) (a0_1 : Int) (a0_2 : Int) (a0_3 : Int) (a0_4 : Int) (a1 : ByteArray) (r : Int) (w : World) (h : spec_Value.f k a0_0 a0_1 a0_2 a0_3 a0_4 a1 = some r) :
  Calls Try.prog 16 #[.agg #[.int .i64 a0_0, .int .i64 a0_1, .int .i64 a0_2, .int .i64 a0_3, .int .i64 a0_4], .string a1] w fun e w' => e = .returned (.int .i64 r) ∧ Below w.heap.size w w' := by
 have hu23 := Try.underlying23
 have HB := Aside0.mk (Below.refl w.heap.size w)
 have H : ((spec_Check.f k a0_0 a0_1 a0_2 a0_3 a0_4).bind fun t114 => (if t114 = 0 then (if (a1.size : Int) < a0_3 then (spec_Value.j0 k a1 true a0_0 a0_1 a0_2 a0_3 a0_4) else (spec_Value.j0 k a1 (decide ((a1.size : Int) > a0_4)) a0_0 a0_1 a0_2 a0_3 a0_4)) else (some 1))) = some r := h
 clear h
 replace H := Option.bind_eq_some_iff.mp H
 obtain ⟨t114, A30, H⟩ := H
 replace H : (if t114 = 0 then (if (a1.size : Int) < a0_3 then (spec_Value.j0 k a1 true a0_0 a0_1 a0_2 a0_3 a0_4) else (spec_Value.j0 k a1 (decide ((a1.size : Int) > a0_4)) a0_0 a0_1 a0_2 a0_3 a0_4)) else (some 1)) = some r := H
 have A3 := Aside0.mk A30
 clear A30
 by_cases c4 : t114 = 0
 ·rw [if_pos c4] at H
  have c4b0 : (t114 == 0) = true := beq_iff_eq.mpr c4
  have c4b1 : (t114 != 0) = false := bne_eq_false_iff_eq.mpr c4
  clear c4
  have HC5 := Aside0.mk H
  clear H
  go_enter Try.func16, Try.ntmps16
  go_upto_region 3 with (first | ((with_reducible refine gate_dst (N := 2) rfl ?_); refine box_event ?hg (N := 2) ?hd (cs := #[.int .i64 a0_0, .int .i64 a0_1, .int .i64 a0_2, .int .i64 a0_3, .int .i64 a0_4]) (t := 23) ?hr ?_; (case hd => rfl); (case hg => rfl); (case hr => first | (go_simp; done) | (go_simp; rfl) | (have hu8_ := IntKind.wrap_u8; go_simp; done) | (have hu8_ := IntKind.wrap_u8; go_simp; rfl) | (go_simp; simp [IntKind.wrap_u8]; done)); intro gb113 hg w6 hbox hb; have n0_ := Aside0.mk (below_step (by repeat (first | (with_reducible first | exact HB.out | apply below_alloc | apply pw_below_drewN | apply below_drew1) | exact HB.out)) hb); have n1_ := Aside0.mk (hbox); have n2_ := Aside0.mk ((by rw [hg]; exact (below_size (by repeat (first | (with_reducible first | exact HB.out | apply below_alloc | apply pw_below_drewN | apply below_drew1) | exact HB.out))) : w.heap.size ≤ gb113)); have n3_ := Aside0.mk ((by rw [hg]; exact (below_size (by repeat (first | (with_reducible first | exact HB.out | apply below_alloc | apply pw_below_drewN | apply below_drew1) | exact HB.out))) : w.heap.size ≤ gb113)); clear HB; have HB := n0_; have BK113 := n1_; have GW113 := n2_; have GE113 := n3_; clear n0_ n1_ n2_ n3_; clear hb hbox hg; have hcz7_0 : w6.cell? ⟨gb113, 0, none⟩ = some (.int .i64 a0_0) := (blk_cell BK113.out 0).trans rfl; have hcz7_1 : w6.cell? ⟨gb113, 1, none⟩ = some (.int .i64 a0_1) := (blk_cell BK113.out 1).trans rfl; have hcz7_2 : w6.cell? ⟨gb113, 2, none⟩ = some (.int .i64 a0_2) := (blk_cell BK113.out 2).trans rfl; have hcz7_3 : w6.cell? ⟨gb113, 3, none⟩ = some (.int .i64 a0_3) := (blk_cell BK113.out 3).trans rfl; have hcz7_4 : w6.cell? ⟨gb113, 4, none⟩ = some (.int .i64 a0_4) := (blk_cell BK113.out 4).trans rfl; have hfz7_0 := blk_frozen BK113.out 0; have hfz7_1 := blk_frozen BK113.out 1; have hfz7_2 := blk_frozen BK113.out 2; have hfz7_3 := blk_frozen BK113.out 3; have hfz7_4 := blk_frozen BK113.out 4) | ((with_reducible refine gate_callee (f := 14) rfl ?_); refine goesL_ (some 10) rfl rfl Try.func14 (by kernel_rfl) rfl #[.agg #[.int .i64 a0_0, .int .i64 a0_1, .int .i64 a0_2, .int .i64 a0_3, .int .i64 a0_4]] rfl (by (try simp only [List.map_toArray, List.map_cons, List.map_nil]); first | done | rfl | (simp only [List.length_drop, List.length_take]; rfl)) ?_; (with_reducible refine (spec_Check.calls k a0_0 a0_1 a0_2 a0_3 a0_4 t114 _ A3.out).mono ?_); rintro e w8 ⟨rfl, hb⟩; refine ⟨_, rfl, ?_⟩; have n0_ := Aside0.mk (blk_below (g := gb113) (o := .cells #[.int .i64 a0_0, .int .i64 a0_1, .int .i64 a0_2, .int .i64 a0_3, .int .i64 a0_4] 23 (0, 0)) (by (with_reducible repeat (first | refine blk_drewN ?_ _ | refine blk_drew ?_ | refine blk_alloc ?_ _)); exact BK113.out) hb); have n1_ := Aside0.mk (below_step (by repeat (first | (with_reducible first | exact HB.out | apply below_alloc | apply pw_below_drewN | apply below_drew1 | refine below_set ?_ GE113.out) | exact HB.out)) hb); clear BK113; clear HB; have BK113 := n0_; have HB := n1_; clear n0_ n1_; (try clear hb); (try clear hb2); (try clear hk); (try clear hi)))
  (try simp only [Act.put, List.setIfInBounds_toArray, List.set_cons_zero, List.set_cons_succ])
  go_cut [12] (fun v12 wc => ∃ (kq : Nat) (x12_4 : Bool), v12 = .bool x12_4 ∧ Aside0 (spec_Value.j0 kq a1 x12_4 a0_0 a0_1 a0_2 a0_3 a0_4 = some r) ∧ Aside0 (kq ≤ k) ∧ Aside0 (wc.heap[gb113]? = some (.cells #[.int .i64 a0_0, .int .i64 a0_1, .int .i64 a0_2, .int .i64 a0_3, .int .i64 a0_4] 23 (0, 0))) ∧ Aside0 (Below w.heap.size w wc))
  case first =>
   have H := HC5.out
   clear HC5
   by_cases c9 : (a1.size : Int) < a0_3
   ·rw [if_pos c9] at H
    have c9b0 : decide ((a1.size : Int) < a0_3) = true := decide_eq_true c9
    clear c9
    (first | rw [c9b0] | (simp only [i64_w, i32_w]; rw [c9b0]) | skip)
    have H' := Aside0.mk H
    clear H
    have hcz10_0 : w8.cell? ⟨gb113, 0, none⟩ = some (.int .i64 a0_0) := (blk_cell BK113.out 0).trans rfl
    have hcz10_1 : w8.cell? ⟨gb113, 1, none⟩ = some (.int .i64 a0_1) := (blk_cell BK113.out 1).trans rfl
    have hcz10_2 : w8.cell? ⟨gb113, 2, none⟩ = some (.int .i64 a0_2) := (blk_cell BK113.out 2).trans rfl
    have hcz10_3 : w8.cell? ⟨gb113, 3, none⟩ = some (.int .i64 a0_3) := (blk_cell BK113.out 3).trans rfl
    have hcz10_4 : w8.cell? ⟨gb113, 4, none⟩ = some (.int .i64 a0_4) := (blk_cell BK113.out 4).trans rfl
    have hfz10_0 := blk_frozen BK113.out 0
    have hfz10_1 := blk_frozen BK113.out 1
    have hfz10_2 := blk_frozen BK113.out 2
    have hfz10_3 := blk_frozen BK113.out 3
    have hfz10_4 := blk_frozen BK113.out 4
    go_wp2
    go_meet
    case rel => exact ⟨_, (true), (by first | rfl | (simp; done) | (simp [*]; done) | (simp [wrap64]; done)), H', ⟨by first | omega | exact Nat.le_refl _⟩, ⟨by (with_reducible repeat (first | refine blk_drewN ?_ _ | refine blk_drew ?_ | refine blk_alloc ?_ _)); exact BK113.out⟩, ⟨by repeat (first | (with_reducible first | exact HB.out | apply below_alloc | apply pw_below_drewN | apply below_drew1 | refine below_set ?_ GE113.out) | exact HB.out)⟩⟩
   ·rw [if_neg c9] at H
    have c9b0 : decide ((a1.size : Int) < a0_3) = false := decide_eq_false c9
    clear c9
    (first | rw [c9b0] | (simp only [i64_w, i32_w]; rw [c9b0]) | skip)
    have H' := Aside0.mk H
    clear H
    have hcz11_0 : w8.cell? ⟨gb113, 0, none⟩ = some (.int .i64 a0_0) := (blk_cell BK113.out 0).trans rfl
    have hcz11_1 : w8.cell? ⟨gb113, 1, none⟩ = some (.int .i64 a0_1) := (blk_cell BK113.out 1).trans rfl
    have hcz11_2 : w8.cell? ⟨gb113, 2, none⟩ = some (.int .i64 a0_2) := (blk_cell BK113.out 2).trans rfl
    have hcz11_3 : w8.cell? ⟨gb113, 3, none⟩ = some (.int .i64 a0_3) := (blk_cell BK113.out 3).trans rfl
    have hcz11_4 : w8.cell? ⟨gb113, 4, none⟩ = some (.int .i64 a0_4) := (blk_cell BK113.out 4).trans rfl
    have hfz11_0 := blk_frozen BK113.out 0
    have hfz11_1 := blk_frozen BK113.out 1
    have hfz11_2 := blk_frozen BK113.out 2
    have hfz11_3 := blk_frozen BK113.out 3
    have hfz11_4 := blk_frozen BK113.out 4
    go_wp2
    go_meet
    case rel => exact ⟨_, (decide ((a1.size : Int) > a0_4)), (by first | rfl | (simp; done) | (simp [*]; done) | (simp [wrap64]; done)), H', ⟨by first | omega | exact Nat.le_refl _⟩, ⟨by (with_reducible repeat (first | refine blk_drewN ?_ _ | refine blk_drew ?_ | refine blk_alloc ?_ _)); exact BK113.out⟩, ⟨by repeat (first | (with_reducible first | exact HB.out | apply below_alloc | apply pw_below_drewN | apply below_drew1 | refine below_set ?_ GE113.out) | exact HB.out)⟩⟩
  case rest =>
   clear HC5
   try clear c1
   try clear p2
   try clear c4
   try clear c4b0
   try clear c4b1
   try clear p6
   try clear c9
   try clear c9b0
   try clear hcz10_0
   try clear hcz10_1
   try clear hcz10_2
   try clear hcz10_3
   try clear hcz10_4
   try clear hcz11_0
   try clear hcz11_1
   try clear hcz11_2
   try clear hcz11_3
   try clear hcz11_4
   try clear hcz7_0
   try clear hcz7_1
   try clear hcz7_2
   try clear hcz7_3
   try clear hcz7_4
   try clear hfz10_0
   try clear hfz10_1
   try clear hfz10_2
   try clear hfz10_3
   try clear hfz10_4
   try clear hfz11_0
   try clear hfz11_1
   try clear hfz11_2
   try clear hfz11_3
   try clear hfz11_4
   try clear hfz7_0
   try clear hfz7_1
   try clear hfz7_2
   try clear hfz7_3
   try clear hfz7_4
   obtain ⟨kq, x12_4, rfl, HA, HJ4, BK113, HB⟩ := hcut
   cases kq with
   | zero => exact absurd HA.out (by simp [spec_Value.j0])
   | succ kj4 =>
    have H := HA.out
    clear HA
    simp only [spec_Value.j0] at H
    by_cases c12 : x12_4 = true
    ·subst c12
     have H1 : (some 5) = some r := by rw [if_pos rfl] at H; exact H
     clear H
     have H := H1
     clear H1
     obtain rfl := Option.some.inj H
     go_wp2
     go_ret
     exact ⟨by first | rfl | (simp [errW_none, errW_some] <;> rfl) | (simp [*, errW_none, errW_some] <;> rfl), by repeat (first | (with_reducible first | exact HB.out | apply below_alloc | apply pw_below_drewN | apply below_drew1 | refine below_set ?_ GE113.out) | exact HB.out)⟩
    ·replace c12 := Bool.eq_false_iff.mpr c12
     subst c12
     have H1 : ((class_First.f kj4 a0_1 a1).bind fun t115 => (if t115 ≥ 0 then (some 6) else (if a0_1 = 6 then ((tlv_Get.f kj4 a1).bind fun bt116 => (if bt116.2.1 = 0 then (some 0) else (some 13))) else (some 0)))) = some r := by rw [if_neg (show ¬ (false = true) by decide)] at H; exact H
     clear H
     have H := H1
     clear H1
     replace H := Option.bind_eq_some_iff.mp H
     obtain ⟨t115, A130, H⟩ := H
     replace H : (if t115 ≥ 0 then (some 6) else (if a0_1 = 6 then ((tlv_Get.f kj4 a1).bind fun bt116 => (if bt116.2.1 = 0 then (some 0) else (some 13))) else (some 0))) = some r := H
     have A13 := Aside0.mk A130
     clear A130
     by_cases c14 : t115 ≥ 0
     ·rw [if_pos c14] at H
      have c14b0 : decide (0 ≤ t115) = true := decide_eq_true c14
      clear c14
      obtain rfl := Option.some.inj H
      have hcz15_0 : wc.cell? ⟨gb113, 0, none⟩ = some (.int .i64 a0_0) := (blk_cell BK113.out 0).trans rfl
      have hcz15_1 : wc.cell? ⟨gb113, 1, none⟩ = some (.int .i64 a0_1) := (blk_cell BK113.out 1).trans rfl
      have hcz15_2 : wc.cell? ⟨gb113, 2, none⟩ = some (.int .i64 a0_2) := (blk_cell BK113.out 2).trans rfl
      have hcz15_3 : wc.cell? ⟨gb113, 3, none⟩ = some (.int .i64 a0_3) := (blk_cell BK113.out 3).trans rfl
      have hcz15_4 : wc.cell? ⟨gb113, 4, none⟩ = some (.int .i64 a0_4) := (blk_cell BK113.out 4).trans rfl
      have hfz15_0 := blk_frozen BK113.out 0
      have hfz15_1 := blk_frozen BK113.out 1
      have hfz15_2 := blk_frozen BK113.out 2
      have hfz15_3 := blk_frozen BK113.out 3
      have hfz15_4 := blk_frozen BK113.out 4
      go_wp2_with (first | ((with_reducible refine gate_callee (f := 27) rfl ?_); refine goesL_ (some 29) rfl rfl Try.func27 (by kernel_rfl) rfl #[.int .i64 a0_1, .string a1] rfl (by (try simp only [List.map_toArray, List.map_cons, List.map_nil]); first | done | rfl | (simp only [List.length_drop, List.length_take]; rfl)) ?_; (with_reducible refine (class_First.calls kj4 a0_1 a1 t115 _ A13.out).mono ?_); rintro e w' ⟨rfl, ⟨nd, rfl⟩⟩; refine ⟨_, rfl, ?_⟩))
      go_ret
      exact ⟨by first | rfl | (simp [errW_none, errW_some] <;> rfl) | (simp [*, errW_none, errW_some] <;> rfl), by repeat (first | (with_reducible first | exact HB.out | apply below_alloc | apply pw_below_drewN | apply below_drew1 | refine below_set ?_ GE113.out) | exact HB.out)⟩
     ·rw [if_neg c14] at H
      have c14b0 : decide (0 ≤ t115) = false := decide_eq_false c14
      clear c14
      by_cases c16 : a0_1 = 6
      ·rw [if_pos c16] at H
       have c16b0 : (a0_1 == 6) = true := beq_iff_eq.mpr c16
       have c16b1 : (a0_1 != 6) = false := bne_eq_false_iff_eq.mpr c16
       clear c16
       replace H := Option.bind_eq_some_iff.mp H
       obtain ⟨⟨t116, t117, t118⟩, A170, H⟩ := H
       replace H : (if t117 = 0 then (some 0) else (some 13)) = some r := H
       have A17 := Aside0.mk A170
       clear A170
       by_cases c18 : t117 = 0
       ·rw [if_pos c18] at H
        have c18b0 : (t117 == 0) = true := beq_iff_eq.mpr c18
        have c18b1 : (t117 != 0) = false := bne_eq_false_iff_eq.mpr c18
        clear c18
        obtain rfl := Option.some.inj H
        have hcz19_0 : wc.cell? ⟨gb113, 0, none⟩ = some (.int .i64 a0_0) := (blk_cell BK113.out 0).trans rfl
        have hcz19_1 : wc.cell? ⟨gb113, 1, none⟩ = some (.int .i64 a0_1) := (blk_cell BK113.out 1).trans rfl
        have hcz19_2 : wc.cell? ⟨gb113, 2, none⟩ = some (.int .i64 a0_2) := (blk_cell BK113.out 2).trans rfl
        have hcz19_3 : wc.cell? ⟨gb113, 3, none⟩ = some (.int .i64 a0_3) := (blk_cell BK113.out 3).trans rfl
        have hcz19_4 : wc.cell? ⟨gb113, 4, none⟩ = some (.int .i64 a0_4) := (blk_cell BK113.out 4).trans rfl
        have hfz19_0 := blk_frozen BK113.out 0
        have hfz19_1 := blk_frozen BK113.out 1
        have hfz19_2 := blk_frozen BK113.out 2
        have hfz19_3 := blk_frozen BK113.out 3
        have hfz19_4 := blk_frozen BK113.out 4
        go_wp2_with (first | ((with_reducible refine gate_callee (f := 27) rfl ?_); refine goesL_ (some 29) rfl rfl Try.func27 (by kernel_rfl) rfl #[.int .i64 a0_1, .string a1] rfl (by (try simp only [List.map_toArray, List.map_cons, List.map_nil]); first | done | rfl | (simp only [List.length_drop, List.length_take]; rfl)) ?_; (with_reducible refine (class_First.calls kj4 a0_1 a1 t115 _ A13.out).mono ?_); rintro e w' ⟨rfl, ⟨nd, rfl⟩⟩; refine ⟨_, rfl, ?_⟩) | ((with_reducible refine gate_callee (f := 28) rfl ?_); refine goesL_ (some 36) rfl rfl Try.func28 (by kernel_rfl) rfl #[.string a1] rfl (by (try simp only [List.map_toArray, List.map_cons, List.map_nil]); first | done | rfl | (simp only [List.length_drop, List.length_take]; rfl)) ?_; (with_reducible refine (tlv_Get.calls kj4 a1 t116 t117 t118 _ A17.out).mono ?_); rintro e w20 ⟨v119, rfl, ho0, hb⟩; refine ⟨_, rfl, ?_⟩; have n0_ := Aside0.mk (Kd.R_lower ho0 (below_size (by repeat (first | (with_reducible first | exact HB.out | apply below_alloc | apply pw_below_drewN | apply below_drew1 | refine below_set ?_ GE113.out) | exact HB.out)))); have n1_ := Aside0.mk (blk_below (g := gb113) (o := .cells #[.int .i64 a0_0, .int .i64 a0_1, .int .i64 a0_2, .int .i64 a0_3, .int .i64 a0_4] 23 (0, 0)) (by (with_reducible repeat (first | refine blk_drewN ?_ _ | refine blk_drew ?_ | refine blk_alloc ?_ _)); exact BK113.out) hb); have n2_ := Aside0.mk (below_step (by repeat (first | (with_reducible first | exact HB.out | apply below_alloc | apply pw_below_drewN | apply below_drew1 | refine below_set ?_ GE113.out) | exact HB.out)) hb); clear BK113; clear HB; have HO120 := n0_; have BK113 := n1_; have HB := n2_; clear n0_ n1_ n2_; (try clear hb); (try clear hb2); (try clear hk); (try clear hi); (try clear ho0)))
        go_ret
        exact ⟨by first | rfl | (simp [errW_none, errW_some] <;> rfl) | (simp [*, errW_none, errW_some] <;> rfl), by repeat (first | (with_reducible first | exact HB.out | apply below_alloc | apply pw_below_drewN | apply below_drew1 | refine below_set ?_ GE113.out) | exact HB.out)⟩
       ·rw [if_neg c18] at H
        have c18b0 : (t117 == 0) = false := beq_eq_false_iff_ne.mpr c18
        have c18b1 : (t117 != 0) = true := bne_iff_ne.mpr c18
        obtain rfl := Option.some.inj H
        have hcz21_0 : wc.cell? ⟨gb113, 0, none⟩ = some (.int .i64 a0_0) := (blk_cell BK113.out 0).trans rfl
        have hcz21_1 : wc.cell? ⟨gb113, 1, none⟩ = some (.int .i64 a0_1) := (blk_cell BK113.out 1).trans rfl
        have hcz21_2 : wc.cell? ⟨gb113, 2, none⟩ = some (.int .i64 a0_2) := (blk_cell BK113.out 2).trans rfl
        have hcz21_3 : wc.cell? ⟨gb113, 3, none⟩ = some (.int .i64 a0_3) := (blk_cell BK113.out 3).trans rfl
        have hcz21_4 : wc.cell? ⟨gb113, 4, none⟩ = some (.int .i64 a0_4) := (blk_cell BK113.out 4).trans rfl
        have hfz21_0 := blk_frozen BK113.out 0
        have hfz21_1 := blk_frozen BK113.out 1
        have hfz21_2 := blk_frozen BK113.out 2
        have hfz21_3 := blk_frozen BK113.out 3
        have hfz21_4 := blk_frozen BK113.out 4
        go_wp2_with (first | ((with_reducible refine gate_callee (f := 27) rfl ?_); refine goesL_ (some 29) rfl rfl Try.func27 (by kernel_rfl) rfl #[.int .i64 a0_1, .string a1] rfl (by (try simp only [List.map_toArray, List.map_cons, List.map_nil]); first | done | rfl | (simp only [List.length_drop, List.length_take]; rfl)) ?_; (with_reducible refine (class_First.calls kj4 a0_1 a1 t115 _ A13.out).mono ?_); rintro e w' ⟨rfl, ⟨nd, rfl⟩⟩; refine ⟨_, rfl, ?_⟩) | ((with_reducible refine gate_callee (f := 28) rfl ?_); refine goesL_ (some 36) rfl rfl Try.func28 (by kernel_rfl) rfl #[.string a1] rfl (by (try simp only [List.map_toArray, List.map_cons, List.map_nil]); first | done | rfl | (simp only [List.length_drop, List.length_take]; rfl)) ?_; (with_reducible refine (tlv_Get.calls kj4 a1 t116 t117 t118 _ A17.out).mono ?_); rintro e w22 ⟨v119, rfl, ho0, hb⟩; refine ⟨_, rfl, ?_⟩; have n0_ := Aside0.mk (Kd.R_lower ho0 (below_size (by repeat (first | (with_reducible first | exact HB.out | apply below_alloc | apply pw_below_drewN | apply below_drew1 | refine below_set ?_ GE113.out) | exact HB.out)))); have n1_ := Aside0.mk (blk_below (g := gb113) (o := .cells #[.int .i64 a0_0, .int .i64 a0_1, .int .i64 a0_2, .int .i64 a0_3, .int .i64 a0_4] 23 (0, 0)) (by (with_reducible repeat (first | refine blk_drewN ?_ _ | refine blk_drew ?_ | refine blk_alloc ?_ _)); exact BK113.out) hb); have n2_ := Aside0.mk (below_step (by repeat (first | (with_reducible first | exact HB.out | apply below_alloc | apply pw_below_drewN | apply below_drew1 | refine below_set ?_ GE113.out) | exact HB.out)) hb); clear BK113; clear HB; have HO120 := n0_; have BK113 := n1_; have HB := n2_; clear n0_ n1_ n2_; (try clear hb); (try clear hb2); (try clear hk); (try clear hi); (try clear ho0)))
        go_ret
        exact ⟨by first | rfl | (simp [errW_none, errW_some] <;> rfl) | (simp [*, errW_none, errW_some] <;> rfl), by repeat (first | (with_reducible first | exact HB.out | apply below_alloc | apply pw_below_drewN | apply below_drew1 | refine below_set ?_ GE113.out) | exact HB.out)⟩
      ·rw [if_neg c16] at H
       have c16b0 : (a0_1 == 6) = false := beq_eq_false_iff_ne.mpr c16
       have c16b1 : (a0_1 != 6) = true := bne_iff_ne.mpr c16
       obtain rfl := Option.some.inj H
       have hcz23_0 : wc.cell? ⟨gb113, 0, none⟩ = some (.int .i64 a0_0) := (blk_cell BK113.out 0).trans rfl
       have hcz23_1 : wc.cell? ⟨gb113, 1, none⟩ = some (.int .i64 a0_1) := (blk_cell BK113.out 1).trans rfl
       have hcz23_2 : wc.cell? ⟨gb113, 2, none⟩ = some (.int .i64 a0_2) := (blk_cell BK113.out 2).trans rfl
       have hcz23_3 : wc.cell? ⟨gb113, 3, none⟩ = some (.int .i64 a0_3) := (blk_cell BK113.out 3).trans rfl
       have hcz23_4 : wc.cell? ⟨gb113, 4, none⟩ = some (.int .i64 a0_4) := (blk_cell BK113.out 4).trans rfl
       have hfz23_0 := blk_frozen BK113.out 0
       have hfz23_1 := blk_frozen BK113.out 1
       have hfz23_2 := blk_frozen BK113.out 2
       have hfz23_3 := blk_frozen BK113.out 3
       have hfz23_4 := blk_frozen BK113.out 4
       go_wp2_with (first | ((with_reducible refine gate_callee (f := 27) rfl ?_); refine goesL_ (some 29) rfl rfl Try.func27 (by kernel_rfl) rfl #[.int .i64 a0_1, .string a1] rfl (by (try simp only [List.map_toArray, List.map_cons, List.map_nil]); first | done | rfl | (simp only [List.length_drop, List.length_take]; rfl)) ?_; (with_reducible refine (class_First.calls kj4 a0_1 a1 t115 _ A13.out).mono ?_); rintro e w' ⟨rfl, ⟨nd, rfl⟩⟩; refine ⟨_, rfl, ?_⟩))
       go_ret
       exact ⟨by first | rfl | (simp [errW_none, errW_some] <;> rfl) | (simp [*, errW_none, errW_some] <;> rfl), by repeat (first | (with_reducible first | exact HB.out | apply below_alloc | apply pw_below_drewN | apply below_drew1 | refine below_set ?_ GE113.out) | exact HB.out)⟩
 ·rw [if_neg c4] at H
  have c4b0 : (t114 == 0) = false := beq_eq_false_iff_ne.mpr c4
  have c4b1 : (t114 != 0) = true := bne_iff_ne.mpr c4
  obtain rfl := Option.some.inj H
  go_enter Try.func16, Try.ntmps16
  go_wp2_with (first | ((with_reducible refine gate_dst (N := 2) rfl ?_); refine box_event ?hg (N := 2) ?hd (cs := #[.int .i64 a0_0, .int .i64 a0_1, .int .i64 a0_2, .int .i64 a0_3, .int .i64 a0_4]) (t := 23) ?hr ?_; (case hd => rfl); (case hg => rfl); (case hr => first | (go_simp; done) | (go_simp; rfl) | (have hu8_ := IntKind.wrap_u8; go_simp; done) | (have hu8_ := IntKind.wrap_u8; go_simp; rfl) | (go_simp; simp [IntKind.wrap_u8]; done)); intro gb113 hg w24 hbox hb; have n0_ := Aside0.mk (below_step (by repeat (first | (with_reducible first | exact HB.out | apply below_alloc | apply pw_below_drewN | apply below_drew1) | exact HB.out)) hb); have n1_ := Aside0.mk (hbox); have n2_ := Aside0.mk ((by rw [hg]; exact (below_size (by repeat (first | (with_reducible first | exact HB.out | apply below_alloc | apply pw_below_drewN | apply below_drew1) | exact HB.out))) : w.heap.size ≤ gb113)); have n3_ := Aside0.mk ((by rw [hg]; exact (below_size (by repeat (first | (with_reducible first | exact HB.out | apply below_alloc | apply pw_below_drewN | apply below_drew1) | exact HB.out))) : w.heap.size ≤ gb113)); clear HB; have HB := n0_; have BK113 := n1_; have GW113 := n2_; have GE113 := n3_; clear n0_ n1_ n2_ n3_; clear hb hbox hg; have hcz25_0 : w24.cell? ⟨gb113, 0, none⟩ = some (.int .i64 a0_0) := (blk_cell BK113.out 0).trans rfl; have hcz25_1 : w24.cell? ⟨gb113, 1, none⟩ = some (.int .i64 a0_1) := (blk_cell BK113.out 1).trans rfl; have hcz25_2 : w24.cell? ⟨gb113, 2, none⟩ = some (.int .i64 a0_2) := (blk_cell BK113.out 2).trans rfl; have hcz25_3 : w24.cell? ⟨gb113, 3, none⟩ = some (.int .i64 a0_3) := (blk_cell BK113.out 3).trans rfl; have hcz25_4 : w24.cell? ⟨gb113, 4, none⟩ = some (.int .i64 a0_4) := (blk_cell BK113.out 4).trans rfl; have hfz25_0 := blk_frozen BK113.out 0; have hfz25_1 := blk_frozen BK113.out 1; have hfz25_2 := blk_frozen BK113.out 2; have hfz25_3 := blk_frozen BK113.out 3; have hfz25_4 := blk_frozen BK113.out 4) | ((with_reducible refine gate_callee (f := 14) rfl ?_); refine goesL_ (some 10) rfl rfl Try.func14 (by kernel_rfl) rfl #[.agg #[.int .i64 a0_0, .int .i64 a0_1, .int .i64 a0_2, .int .i64 a0_3, .int .i64 a0_4]] rfl (by (try simp only [List.map_toArray, List.map_cons, List.map_nil]); first | done | rfl | (simp only [List.length_drop, List.length_take]; rfl)) ?_; (with_reducible refine (spec_Check.calls k a0_0 a0_1 a0_2 a0_3 a0_4 t114 _ A3.out).mono ?_); rintro e w26 ⟨rfl, hb⟩; refine ⟨_, rfl, ?_⟩; have n0_ := Aside0.mk (blk_below (g := gb113) (o := .cells #[.int .i64 a0_0, .int .i64 a0_1, .int .i64 a0_2, .int .i64 a0_3, .int .i64 a0_4] 23 (0, 0)) (by (with_reducible repeat (first | refine blk_drewN ?_ _ | refine blk_drew ?_ | refine blk_alloc ?_ _)); exact BK113.out) hb); have n1_ := Aside0.mk (below_step (by repeat (first | (with_reducible first | exact HB.out | apply below_alloc | apply pw_below_drewN | apply below_drew1 | refine below_set ?_ GE113.out) | exact HB.out)) hb); clear BK113; clear HB; have BK113 := n0_; have HB := n1_; clear n0_ n1_; (try clear hb); (try clear hb2); (try clear hk); (try clear hi)))
  go_ret
  exact ⟨by first | rfl | (simp [errW_none, errW_some] <;> rfl) | (simp [*, errW_none, errW_some] <;> rfl), by repeat (first | (with_reducible first | exact HB.out | apply below_alloc | apply pw_below_drewN | apply below_drew1 | refine below_set ?_ GE113.out) | exact HB.out)⟩

end Go.Proofs.Ytfaeodcapagjbaa.P
