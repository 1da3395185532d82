-- written for this claim by wip/pp.py
import Derived.Test.YtfaeodcapagjbaaPx0
import Derived.Test.YtfaeodcapagjbaaPx10
namespace Go.Proofs.Ytfaeodcapagjbaa.P
open Go.RowKit Go.Proofs.YtfaeodcapagjbaaW.PrintWords Go.Proofs.YtfaeodcapagjbaaW.PrintLast Go.Proofs.YtfaeodcapagjbaaW.PrintMore
attribute [local go_sem] max2_int min2_int max_two min_two max_three min_three max_four min_four   -- for this text's walks alone
set_option linter.unusedVariables false
set_option linter.unusedSimpArgs false

/-! ### groatref04_First: function 29 -/
def groatref04_First.l0 : Nat → Int → ByteArray → Int → Option (Int)
 | 0, _, _, _ => none
 | k + 1, x0, x1, x5 => if x5 < (x1.size : Int) then (if 0 ≤ x5 then ((groatref04_Is.f k x0 (bt x1 x5)).bind fun t143 => (if t143 = true then (groatref04_First.l0 k x0 x1 (wrap64 (x5 + 1))) else (some x5))) else (none)) else (some (-1))
def groatref04_First.f (k : Nat) (a0 : Int) (a1 : ByteArray) : Option (Int) := groatref04_First.l0 k a0 a1 0
theorem groatref04_First.mono_l : ∀ k, (∀ y0 y1 y2, LeO (groatref04_First.l0 k y0 y1 y2) (groatref04_First.l0 (k + 1) y0 y1 y2))
 | 0 => fun _ _ _ r h => by simp [groatref04_First.l0] at h
 | k + 1 => by
  have ih0 := groatref04_First.mono_l k
  ·intro y0 y1 y2
   unfold groatref04_First.l0
   repeat' first
   | (with_reducible exact ih0 _ _ _)
   | (with_reducible exact groatref04_Is.mono _ _ _)
   | (with_reducible exact LeO.refl _)
   | (with_reducible exact LeO.none _)
   | (with_reducible refine LeO.ite ?_ ?_)
   | (with_reducible refine LeO.bind ?_ (fun _ => ?_))
   | exact ih0 _ _ _
   | exact groatref04_Is.mono _ _ _
   | exact LeO.none _
   | refine LeO.ite ?_ ?_
   | refine LeO.bind ?_ (fun _ => ?_)
theorem groatref04_First.mono : ∀ a0 a1 k, LeO (groatref04_First.f k a0 a1) (groatref04_First.f (k + 1) a0 a1) := by
 intro a0 a1 k
 have ih0 := groatref04_First.mono_l k
 unfold groatref04_First.f
 repeat' first
   | (with_reducible exact ih0 _ _ _)
   | (with_reducible exact groatref04_Is.mono _ _ _)
   | (with_reducible exact LeO.refl _)
   | (with_reducible exact LeO.none _)
   | (with_reducible refine LeO.ite ?_ ?_)
   | (with_reducible refine LeO.bind ?_ (fun _ => ?_))
   | exact ih0 _ _ _
   | exact groatref04_Is.mono _ _ _
   | exact LeO.none _
   | refine LeO.ite ?_ ?_
   | refine LeO.bind ?_ (fun _ => ?_)
set_option maxHeartbeats 8000000 in
set_option maxRecDepth 100000 in
theorem groatref04_First.calls (k : Nat) (a0 : Int) (a1 : ByteArray) (r : Int) (w : World) (h : groatref04_First.f k a0 a1 = some r) :
  Calls Try.prog 29 #[.int .i64 a0, .string a1] w fun e w' => e = .returned (.int .i64 r) ∧ Drawn0 w w' := by
 have H : (groatref04_First.l0 k a0 a1 0) = some r := h
 clear h
 have H' := Aside0.mk H
 clear H
 go_enter Try.func29, Try.ntmps29
 go_wp2
 go_loopg [5] k (fun kq v5 w' => ∃ (x5_1 : Int), v5 = .int .i64 x5_1 ∧ Aside0 (groatref04_First.l0 kq a0 a1 x5_1 = some r) ∧ Aside0 (kq ≤ k) ∧ Drawn0 w w')
 case atStart => exact ⟨(0), (by first | rfl | (simp; done) | (simp [*]; done) | (simp [wrap64]; done)), H', ⟨Nat.le_refl _⟩, by repeat (first | exact Drawn0.refl _ | apply Drawn0.step)⟩
 case round =>
  clear H'
  try clear c2
  try clear p2
  obtain ⟨x5_1, rfl, HA, HK1, ⟨m1, rfl⟩⟩ := hrel
  cases gk with
  | zero => exact absurd HA.out (by simp [groatref04_First.l0])
  | succ k1 =>
   have H := HA.out
   clear HA
   simp only [groatref04_First.l0] at H
   by_cases c3 : x5_1 < (a1.size : Int)
   ·rw [if_pos c3] at H
    have c3b0 : decide (x5_1 < (a1.size : Int)) = true := decide_eq_true c3
    clear c3
    by_cases c4 : 0 ≤ x5_1
    ·rw [if_pos c4] at H
     have c4b0 : decide (0 ≤ x5_1) = true := decide_eq_true c4
     clear c4
     replace H := Option.bind_eq_some_iff.mp H
     obtain ⟨t143, A60, H⟩ := H
     replace H : (if t143 = true then (groatref04_First.l0 k1 a0 a1 (wrap64 (x5_1 + 1))) else (some x5_1)) = some r := H
     have A6 := Aside0.mk A60
     clear A60
     by_cases c7 : t143 = true
     ·subst c7
      have H1 : (groatref04_First.l0 k1 a0 a1 (wrap64 (x5_1 + 1))) = some r := by rw [if_pos rfl] at H; exact H
      clear H
      have H := H1
      clear H1
      have H' := Aside0.mk H
      clear H
      have p5 : 0 ≤ (x5_1 : Int) := of_decide_eq_true (by first | (with_reducible assumption) | assumption)
      have q5 : x5_1 < (a1.size : Int) := of_decide_eq_true (by first | (with_reducible assumption) | assumption)
      have hx5 := bt_at a1 x5_1
      replace p5 := eq_true p5
      replace q5 := eq_true q5
      go_wp2_with (first | ((with_reducible refine gate_callee (f := 52) rfl ?_); refine goesL_ (some 16) rfl rfl Try.func52 (by kernel_rfl) rfl #[.int .i64 a0, .int .u8 (bt a1 x5_1)] rfl (by (try simp only [List.map_toArray, List.map_cons, List.map_nil]); first | done | rfl | (simp only [List.length_drop, List.length_take]; rfl)) ?_; (with_reducible refine (groatref04_Is.calls k1 a0 (bt a1 x5_1) true _ A6.out).mono ?_); rintro e w' ⟨rfl, ⟨nd, rfl⟩⟩; refine ⟨_, rfl, ?_⟩))
      go_roundg k1
      case measure => have := HK1.out; omega
      case rel => exact ⟨(wrap64 (x5_1 + 1)), (by first | rfl | (simp; done) | (simp [*]; done) | (simp [wrap64]; done)), H', ⟨by have := HK1.out; omega⟩, by repeat (first | exact Drawn0.refl _ | apply Drawn0.step)⟩
     ·replace c7 := Bool.eq_false_iff.mpr c7
      subst c7
      have H1 : (some x5_1) = some r := by rw [if_neg (show ¬ (false = true) by decide)] at H; exact H
      clear H
      have H := H1
      clear H1
      obtain rfl := Option.some.inj H
      have p5 : 0 ≤ (x5_1 : Int) := of_decide_eq_true (by first | (with_reducible assumption) | assumption)
      have q5 : x5_1 < (a1.size : Int) := of_decide_eq_true (by first | (with_reducible assumption) | assumption)
      have hx5 := bt_at a1 x5_1
      replace p5 := eq_true p5
      replace q5 := eq_true q5
      go_wp2_with (first | ((with_reducible refine gate_callee (f := 52) rfl ?_); refine goesL_ (some 16) rfl rfl Try.func52 (by kernel_rfl) rfl #[.int .i64 a0, .int .u8 (bt a1 x5_1)] rfl (by (try simp only [List.map_toArray, List.map_cons, List.map_nil]); first | done | rfl | (simp only [List.length_drop, List.length_take]; rfl)) ?_; (with_reducible refine (groatref04_Is.calls k1 a0 (bt a1 x5_1) false _ A6.out).mono ?_); rintro e w' ⟨rfl, ⟨nd, rfl⟩⟩; refine ⟨_, rfl, ?_⟩))
      go_ret
      exact ⟨by first | rfl | (simp; done) | (simp [*]; done) | (simp [wrap64]; done), by repeat (first | exact Drawn0.refl _ | apply Drawn0.step)⟩
    ·rw [if_neg c4] at H
     exact absurd H (by simp)
   ·rw [if_neg c3] at H
    have c3b0 : decide (x5_1 < (a1.size : Int)) = false := decide_eq_false c3
    clear c3
    obtain rfl := Option.some.inj H
    go_wp2
    go_ret
    exact ⟨by first | rfl | (simp; done) | (simp [*]; done) | (simp [wrap64]; done), by repeat (first | exact Drawn0.refl _ | apply Drawn0.step)⟩
/-! ### groatref08_First: function 71 -/
def groatref08_First.j0 : Nat → Int → Bool → Option (Int)
 | 0, _, _ => none
 | k + 1, x0, x10 => if x10 = true then (some 0) else (if (Int.tmod x0 32) = 31 then (some 2) else (some 1))
def groatref08_First.f (k : Nat) (a0 : Int) : Option (Int) := if a0 = 0 then (groatref08_First.j0 k a0 true) else (groatref08_First.j0 k a0 ((((Int.tdiv a0 32) % 256) % 2) == 1))
theorem groatref08_First.mono_l : ∀ k, (∀ y0 y1, LeO (groatref08_First.j0 k y0 y1) (groatref08_First.j0 (k + 1) y0 y1))
 | 0 => fun _ _ r h => by simp [groatref08_First.j0] at h
 | k + 1 => by
  have ih0 := groatref08_First.mono_l k
  ·intro y0 y1
   unfold groatref08_First.j0
   repeat' first
   | (with_reducible exact ih0 _ _)
   | (with_reducible exact LeO.refl _)
   | (with_reducible exact LeO.none _)
   | (with_reducible refine LeO.ite ?_ ?_)
   | (with_reducible refine LeO.bind ?_ (fun _ => ?_))
   | exact ih0 _ _
   | exact LeO.none _
   | refine LeO.ite ?_ ?_
   | refine LeO.bind ?_ (fun _ => ?_)
theorem groatref08_First.mono : ∀ a0 k, LeO (groatref08_First.f k a0) (groatref08_First.f (k + 1) a0) := by
 intro a0 k
 have ih0 := groatref08_First.mono_l k
 unfold groatref08_First.f
 repeat' first
   | (with_reducible exact ih0 _ _)
   | (with_reducible exact LeO.refl _)
   | (with_reducible exact LeO.none _)
   | (with_reducible refine LeO.ite ?_ ?_)
   | (with_reducible refine LeO.bind ?_ (fun _ => ?_))
   | exact ih0 _ _
   | exact LeO.none _
   | refine LeO.ite ?_ ?_
   | refine LeO.bind ?_ (fun _ => ?_)
set_option maxHeartbeats 8000000 in
set_option maxRecDepth 100000 in
theorem groatref08_First.calls (k : Nat) (a0 : Int) (r : Int) (w : World) (h : groatref08_First.f k a0 = some r) :
  Calls Try.prog 71 #[.int .u8 a0] w fun e w' => e = .returned (.int .i64 r) ∧ Drawn0 w w' := by
 have H : (if a0 = 0 then (groatref08_First.j0 k a0 true) else (groatref08_First.j0 k a0 ((((Int.tdiv a0 32) % 256) % 2) == 1))) = some r := h
 clear h
 have HC2 := Aside0.mk H
 clear H
 go_enter Try.func71, Try.ntmps71
 go_upto_region 1 with (fail)
 go_cut [10] (fun v10 wc => ∃ (kq : Nat) (x10_1 : Bool), v10 = .bool x10_1 ∧ Aside0 (groatref08_First.j0 kq a0 x10_1 = some r) ∧ Aside0 (kq ≤ k) ∧ Drawn0 w wc)
 case first =>
  have H := HC2.out
  clear HC2
  by_cases c3 : a0 = 0
  ·rw [if_pos c3] at H
   have c3b0 : (a0 == 0) = true := beq_iff_eq.mpr c3
   have c3b1 : (a0 != 0) = false := bne_eq_false_iff_eq.mpr c3
   clear c3
   (first | rw [c3b0] | (simp only [i64_w, i32_w]; rw [c3b0]) | skip)
   have H' := Aside0.mk H
   clear H
   go_wp2
   go_meet
   case rel => exact ⟨_, (true), (by first | rfl | (simp; done) | (simp [*]; done) | (simp [wrap64]; done)), H', ⟨by first | omega | exact Nat.le_refl _⟩, by repeat (first | exact Drawn0.refl _ | apply Drawn0.step)⟩
  ·rw [if_neg c3] at H
   have c3b0 : (a0 == 0) = false := beq_eq_false_iff_ne.mpr c3
   have c3b1 : (a0 != 0) = true := bne_iff_ne.mpr c3
   (first | rw [c3b0] | (simp only [i64_w, i32_w]; rw [c3b0]) | skip)
   have H' := Aside0.mk H
   clear H
   go_wp2
   go_meet
   case rel => exact ⟨_, (((((Int.tdiv a0 32) % 256) % 2) == 1)), (by first | rfl | (simp; done) | (simp [*]; done) | (simp [wrap64]; done)), H', ⟨by first | omega | exact Nat.le_refl _⟩, by repeat (first | exact Drawn0.refl _ | apply Drawn0.step)⟩
 case rest =>
  clear HC2
  try clear p2
  try clear c3
  try clear c3b0
  try clear c3b1
  obtain ⟨kq, x10_1, rfl, HA, HJ1, ⟨mc1, rfl⟩⟩ := hcut
  cases kq with
  | zero => exact absurd HA.out (by simp [groatref08_First.j0])
  | succ kj1 =>
   have H := HA.out
   clear HA
   simp only [groatref08_First.j0] at H
   by_cases c4 : x10_1 = true
   ·subst c4
    have H1 : (some 0) = some r := by rw [if_pos rfl] at H; exact H
    clear H
    have H := H1
    clear H1
    obtain rfl := Option.some.inj H
    go_wp2
    go_ret
    exact ⟨by first | rfl | (simp; done) | (simp [*]; done) | (simp [wrap64]; done), by repeat (first | exact Drawn0.refl _ | apply Drawn0.step)⟩
   ·replace c4 := Bool.eq_false_iff.mpr c4
    subst c4
    have H1 : (if (Int.tmod a0 32) = 31 then (some 2) else (some 1)) = some r := by rw [if_neg (show ¬ (false = true) by decide)] at H; exact H
    clear H
    have H := H1
    clear H1
    by_cases c5 : (Int.tmod a0 32) = 31
    ·rw [if_pos c5] at H
     have c5b0 : ((Int.tmod a0 32) == 31) = true := beq_iff_eq.mpr c5
     have c5b1 : ((Int.tmod a0 32) != 31) = false := bne_eq_false_iff_eq.mpr c5
     clear c5
     obtain rfl := Option.some.inj H
     go_wp2
     go_ret
     exact ⟨by first | rfl | (simp; done) | (simp [*]; done) | (simp [wrap64]; done), by repeat (first | exact Drawn0.refl _ | apply Drawn0.step)⟩
    ·rw [if_neg c5] at H
     have c5b0 : ((Int.tmod a0 32) == 31) = false := beq_eq_false_iff_ne.mpr c5
     have c5b1 : ((Int.tmod a0 32) != 31) = true := bne_iff_ne.mpr c5
     obtain rfl := Option.some.inj H
     go_wp2
     go_ret
     exact ⟨by first | rfl | (simp; done) | (simp [*]; done) | (simp [wrap64]; done), by repeat (first | exact Drawn0.refl _ | apply Drawn0.step)⟩
/-! ### groatref08_Get: function 53 -/
def groatref08_Get.j0 : Nat → ByteArray → Int → Bool → Option (Int × Int × Int)
 | 0, _, _, _ => none
 | k + 1, x0, x1, x15 => if x15 = true then (some (0, 0, 1)) else (if x1 = (x0.size : Int) then (some (0, 0, 2)) else (if 0 ≤ x1 then (if x1 < (x0.size : Int) then ((groatref08_First.f k (bt x0 x1)).bind fun t144 => (if t144 = 0 then (some (0, 0, 13)) else (if t144 = 1 then (some (wrap64 (bt x0 x1), wrap64 (x1 + 1), 0)) else (if (wrap64 ((x0.size : Int) - x1)) < 2 then (some (0, 0, 2)) else (if 0 ≤ (wrap64 (x1 + 1)) then (if (wrap64 (x1 + 1)) < (x0.size : Int) then (if (bt x0 (wrap64 (x1 + 1))) = 0 then (some (0, 0, 13)) else (if (bt x0 (wrap64 (x1 + 1))) > 127 then (some (0, 0, 13)) else (some (wrap64 ((wrap64 (256 * (wrap64 (bt x0 x1)))) + (wrap64 (bt x0 (wrap64 (x1 + 1))))), wrap64 (x1 + 2), 0)))) else (none)) else (none)))))) else (none)) else (none)))
def groatref08_Get.f (k : Nat) (a0 : ByteArray) (a1 : Int) : Option (Int × Int × Int) := if a1 < 0 then (groatref08_Get.j0 k a0 a1 true) else (groatref08_Get.j0 k a0 a1 (decide (a1 > (a0.size : Int))))
theorem groatref08_Get.mono_l : ∀ k, (∀ y0 y1 y2, LeO (groatref08_Get.j0 k y0 y1 y2) (groatref08_Get.j0 (k + 1) y0 y1 y2))
 | 0 => fun _ _ _ r h => by simp [groatref08_Get.j0] at h
 | k + 1 => by
  have ih0 := groatref08_Get.mono_l k
  ·intro y0 y1 y2
   unfold groatref08_Get.j0
   repeat' first
   | (with_reducible exact ih0 _ _ _)
   | (with_reducible exact groatref08_First.mono _ _)
   | (with_reducible exact LeO.refl _)
   | (with_reducible exact LeO.none _)
   | (with_reducible refine LeO.ite ?_ ?_)
   | (with_reducible refine LeO.bind ?_ (fun _ => ?_))
   | exact ih0 _ _ _
   | exact groatref08_First.mono _ _
   | exact LeO.none _
   | refine LeO.ite ?_ ?_
   | refine LeO.bind ?_ (fun _ => ?_)
theorem groatref08_Get.mono : ∀ a0 a1 k, LeO (groatref08_Get.f k a0 a1) (groatref08_Get.f (k + 1) a0 a1) := by
 intro a0 a1 k
 have ih0 := groatref08_Get.mono_l k
 unfold groatref08_Get.f
 repeat' first
   | (with_reducible exact ih0 _ _ _)
   | (with_reducible exact groatref08_First.mono _ _)
   | (with_reducible exact LeO.refl _)
   | (with_reducible exact LeO.none _)
   | (with_reducible refine LeO.ite ?_ ?_)
   | (with_reducible refine LeO.bind ?_ (fun _ => ?_))
   | exact ih0 _ _ _
   | exact groatref08_First.mono _ _
   | exact LeO.none _
   | refine LeO.ite ?_ ?_
   | refine LeO.bind ?_ (fun _ => ?_)
set_option maxHeartbeats 8000000 in
set_option maxRecDepth 100000 in
theorem groatref08_Get.calls (k : Nat) (a0 : ByteArray) (a1 : Int) (r1 : Int) (r2 : Int) (r3 : Int) (w : World) (h : groatref08_Get.f k a0 a1 = some (r1, r2, r3)) :
  Calls Try.prog 53 #[.string a0, .int .i64 a1] w fun e w' => e = .returned (.tuple #[.int .i64 r1, .int .i64 r2, .int .i64 r3]) ∧ Drawn0 w w' := by
 have H : (if a1 < 0 then (groatref08_Get.j0 k a0 a1 true) else (groatref08_Get.j0 k a0 a1 (decide (a1 > (a0.size : Int))))) = some (r1, r2, r3) := h
 clear h
 have HC3 := Aside0.mk H
 clear H
 go_enter Try.func53, Try.ntmps53
 go_upto_region 1 with (fail)
 repeat (go_quiet (fail); go_upto_region 1 with (fail))
 go_cut [15] (fun v15 wc => ∃ (kq : Nat) (x15_2 : Bool), v15 = .bool x15_2 ∧ Aside0 (groatref08_Get.j0 kq a0 a1 x15_2 = some (r1, r2, r3)) ∧ Aside0 (kq ≤ k) ∧ Drawn0 w wc)
 case first =>
  have H := HC3.out
  clear HC3
  by_cases c4 : a1 < 0
  ·rw [if_pos c4] at H
   have c4b0 : decide (a1 < 0) = true := decide_eq_true c4
   clear c4
   (first | rw [c4b0] | (simp only [i64_w, i32_w]; rw [c4b0]) | skip)
   have H' := Aside0.mk H
   clear H
   go_wp2
   repeat (go_quiet (fail); try go_wp2)
   go_meet
   case rel => exact ⟨_, (true), (by first | rfl | (simp; done) | (simp [*]; done) | (simp [wrap64]; done)), H', ⟨by first | omega | exact Nat.le_refl _⟩, by repeat (first | exact Drawn0.refl _ | apply Drawn0.step)⟩
  ·rw [if_neg c4] at H
   have c4b0 : decide (a1 < 0) = false := decide_eq_false c4
   clear c4
   (first | rw [c4b0] | (simp only [i64_w, i32_w]; rw [c4b0]) | skip)
   have H' := Aside0.mk H
   clear H
   go_wp2
   repeat (go_quiet (fail); try go_wp2)
   go_meet
   case rel => exact ⟨_, (decide (a1 > (a0.size : Int))), (by first | rfl | (simp; done) | (simp [*]; done) | (simp [wrap64]; done)), H', ⟨by first | omega | exact Nat.le_refl _⟩, by repeat (first | exact Drawn0.refl _ | apply Drawn0.step)⟩
 case rest =>
  clear HC3
  try clear p2
  try clear c4
  try clear c4b0
  obtain ⟨kq, x15_2, rfl, HA, HJ2, ⟨mc2, rfl⟩⟩ := hcut
  cases kq with
  | zero => exact absurd HA.out (by simp [groatref08_Get.j0])
  | succ kj2 =>
   have H := HA.out
   clear HA
   simp only [groatref08_Get.j0] at H
   by_cases c5 : x15_2 = true
   ·subst c5
    have H1 : (some (0, 0, 1)) = some (r1, r2, r3) := by rw [if_pos rfl] at H; exact H
    clear H
    have H := H1
    clear H1
    simp only [Option.some.injEq, Prod.mk.injEq] at H
    obtain ⟨rfl, rfl, rfl⟩ := H
    go_wp2
    repeat (go_quiet (fail); try go_wp2)
    go_ret3
    exact ⟨by first | rfl | (simp; done) | (simp [*]; done) | (simp [wrap64]; done), by repeat (first | exact Drawn0.refl _ | apply Drawn0.step)⟩
   ·replace c5 := Bool.eq_false_iff.mpr c5
    subst c5
    have H1 : (if a1 = (a0.size : Int) then (some (0, 0, 2)) else (if 0 ≤ a1 then (if a1 < (a0.size : Int) then ((groatref08_First.f kj2 (bt a0 a1)).bind fun t144 => (if t144 = 0 then (some (0, 0, 13)) else (if t144 = 1 then (some (wrap64 (bt a0 a1), wrap64 (a1 + 1), 0)) else (if (wrap64 ((a0.size : Int) - a1)) < 2 then (some (0, 0, 2)) else (if 0 ≤ (wrap64 (a1 + 1)) then (if (wrap64 (a1 + 1)) < (a0.size : Int) then (if (bt a0 (wrap64 (a1 + 1))) = 0 then (some (0, 0, 13)) else (if (bt a0 (wrap64 (a1 + 1))) > 127 then (some (0, 0, 13)) else (some (wrap64 ((wrap64 (256 * (wrap64 (bt a0 a1)))) + (wrap64 (bt a0 (wrap64 (a1 + 1))))), wrap64 (a1 + 2), 0)))) else (none)) else (none)))))) else (none)) else (none))) = some (r1, r2, r3) := by rw [if_neg (show ¬ (false = true) by decide)] at H; exact H
    clear H
    have H := H1
    clear H1
    by_cases c6 : a1 = (a0.size : Int)
    ·rw [if_pos c6] at H
     have c6b0 : (a1 == (a0.size : Int)) = true := beq_iff_eq.mpr c6
     have c6b1 : (a1 != (a0.size : Int)) = false := bne_eq_false_iff_eq.mpr c6
     clear c6
     simp only [Option.some.injEq, Prod.mk.injEq] at H
     obtain ⟨rfl, rfl, rfl⟩ := H
     go_wp2
     repeat (go_quiet (fail); try go_wp2)
     go_ret3
     exact ⟨by first | rfl | (simp; done) | (simp [*]; done) | (simp [wrap64]; done), by repeat (first | exact Drawn0.refl _ | apply Drawn0.step)⟩
    ·rw [if_neg c6] at H
     have c6b0 : (a1 == (a0.size : Int)) = false := beq_eq_false_iff_ne.mpr c6
     have c6b1 : (a1 != (a0.size : Int)) = true := bne_iff_ne.mpr c6
     by_cases c7 : 0 ≤ a1
     ·rw [if_pos c7] at H
      have c7b0 : decide (0 ≤ a1) = true := decide_eq_true c7
      clear c7
      by_cases c8 : a1 < (a0.size : Int)
      ·rw [if_pos c8] at H
       have c8b0 : decide (a1 < (a0.size : Int)) = true := decide_eq_true c8
       clear c8
       replace H := Option.bind_eq_some_iff.mp H
       obtain ⟨t144, A100, H⟩ := H
       replace H : (if t144 = 0 then (some (0, 0, 13)) else (if t144 = 1 then (some (wrap64 (bt a0 a1), wrap64 (a1 + 1), 0)) else (if (wrap64 ((a0.size : Int) - a1)) < 2 then (some (0, 0, 2)) else (if 0 ≤ (wrap64 (a1 + 1)) then (if (wrap64 (a1 + 1)) < (a0.size : Int) then (if (bt a0 (wrap64 (a1 + 1))) = 0 then (some (0, 0, 13)) else (if (bt a0 (wrap64 (a1 + 1))) > 127 then (some (0, 0, 13)) else (some (wrap64 ((wrap64 (256 * (wrap64 (bt a0 a1)))) + (wrap64 (bt a0 (wrap64 (a1 + 1))))), wrap64 (a1 + 2), 0)))) else (none)) else (none))))) = some (r1, r2, r3) := H
       have A10 := Aside0.mk A100
       clear A100
       by_cases c11 : t144 = 0
       ·rw [if_pos c11] at H
        have c11b0 : (t144 == 0) = true := beq_iff_eq.mpr c11
        have c11b1 : (t144 != 0) = false := bne_eq_false_iff_eq.mpr c11
        clear c11
        simp only [Option.some.injEq, Prod.mk.injEq] at H
        obtain ⟨rfl, rfl, rfl⟩ := H
        have p9 : 0 ≤ (a1 : Int) := of_decide_eq_true (by first | (with_reducible assumption) | assumption)
        have q9 : a1 < (a0.size : Int) := of_decide_eq_true (by first | (with_reducible assumption) | assumption)
        have hx9 := bt_at a0 a1
        replace p9 := eq_true p9
        replace q9 := eq_true q9
        go_wp2_with (first | (go_at_call 71; (with_reducible refine (groatref08_First.calls kj2 (bt a0 a1) t144 _ A10.out).mono ?_); rintro e w' ⟨rfl, ⟨nd, rfl⟩⟩; (try first | exact ⟨rfl, _, World.drewN_drewN _ _ _⟩ | exact ⟨rfl, _, Eq.trans (World.drewN_drewN _ _ _) (congrArg (World.drewN _) (Nat.add_assoc _ _ _))⟩)))
        repeat (go_quiet (first | (go_at_call 71; (with_reducible refine (groatref08_First.calls kj2 (bt a0 a1) t144 _ A10.out).mono ?_); rintro e w' ⟨rfl, ⟨nd, rfl⟩⟩; (try first | exact ⟨rfl, _, World.drewN_drewN _ _ _⟩ | exact ⟨rfl, _, Eq.trans (World.drewN_drewN _ _ _) (congrArg (World.drewN _) (Nat.add_assoc _ _ _))⟩))); try go_wp2_with (first | (go_at_call 71; (with_reducible refine (groatref08_First.calls kj2 (bt a0 a1) t144 _ A10.out).mono ?_); rintro e w' ⟨rfl, ⟨nd, rfl⟩⟩; (try first | exact ⟨rfl, _, World.drewN_drewN _ _ _⟩ | exact ⟨rfl, _, Eq.trans (World.drewN_drewN _ _ _) (congrArg (World.drewN _) (Nat.add_assoc _ _ _))⟩))))
        go_ret3
        exact ⟨by first | rfl | (simp; done) | (simp [*]; done) | (simp [wrap64]; done), by repeat (first | exact Drawn0.refl _ | apply Drawn0.step)⟩
       ·rw [if_neg c11] at H
        have c11b0 : (t144 == 0) = false := beq_eq_false_iff_ne.mpr c11
        have c11b1 : (t144 != 0) = true := bne_iff_ne.mpr c11
        by_cases c12 : t144 = 1
        ·rw [if_pos c12] at H
         have c12b0 : (t144 == 1) = true := beq_iff_eq.mpr c12
         have c12b1 : (t144 != 1) = false := bne_eq_false_iff_eq.mpr c12
         clear c12
         simp only [Option.some.injEq, Prod.mk.injEq] at H
         obtain ⟨rfl, rfl, rfl⟩ := H
         have p9 : 0 ≤ (a1 : Int) := of_decide_eq_true (by first | (with_reducible assumption) | assumption)
         have q9 : a1 < (a0.size : Int) := of_decide_eq_true (by first | (with_reducible assumption) | assumption)
         have hx9 := bt_at a0 a1
         replace p9 := eq_true p9
         replace q9 := eq_true q9
         go_wp2_with (first | (go_at_call 71; (with_reducible refine (groatref08_First.calls kj2 (bt a0 a1) t144 _ A10.out).mono ?_); rintro e w' ⟨rfl, ⟨nd, rfl⟩⟩; (try first | exact ⟨rfl, _, World.drewN_drewN _ _ _⟩ | exact ⟨rfl, _, Eq.trans (World.drewN_drewN _ _ _) (congrArg (World.drewN _) (Nat.add_assoc _ _ _))⟩); have p13 : 0 ≤ (a1 : Int) := of_decide_eq_true (by first | (with_reducible assumption) | assumption); have q13 : a1 < (a0.size : Int) := of_decide_eq_true (by first | (with_reducible assumption) | assumption); have hx13 := bt_at a0 a1; replace p13 := eq_true p13; replace q13 := eq_true q13))
         repeat (go_quiet (first | (go_at_call 71; (with_reducible refine (groatref08_First.calls kj2 (bt a0 a1) t144 _ A10.out).mono ?_); rintro e w' ⟨rfl, ⟨nd, rfl⟩⟩; (try first | exact ⟨rfl, _, World.drewN_drewN _ _ _⟩ | exact ⟨rfl, _, Eq.trans (World.drewN_drewN _ _ _) (congrArg (World.drewN _) (Nat.add_assoc _ _ _))⟩); have p13 : 0 ≤ (a1 : Int) := of_decide_eq_true (by first | (with_reducible assumption) | assumption); have q13 : a1 < (a0.size : Int) := of_decide_eq_true (by first | (with_reducible assumption) | assumption); have hx13 := bt_at a0 a1; replace p13 := eq_true p13; replace q13 := eq_true q13)); try go_wp2_with (first | (go_at_call 71; (with_reducible refine (groatref08_First.calls kj2 (bt a0 a1) t144 _ A10.out).mono ?_); rintro e w' ⟨rfl, ⟨nd, rfl⟩⟩; (try first | exact ⟨rfl, _, World.drewN_drewN _ _ _⟩ | exact ⟨rfl, _, Eq.trans (World.drewN_drewN _ _ _) (congrArg (World.drewN _) (Nat.add_assoc _ _ _))⟩); have p13 : 0 ≤ (a1 : Int) := of_decide_eq_true (by first | (with_reducible assumption) | assumption); have q13 : a1 < (a0.size : Int) := of_decide_eq_true (by first | (with_reducible assumption) | assumption); have hx13 := bt_at a0 a1; replace p13 := eq_true p13; replace q13 := eq_true q13)))
         go_ret3
         exact ⟨by first | rfl | (simp; done) | (simp [*]; done) | (simp [wrap64]; done), by repeat (first | exact Drawn0.refl _ | apply Drawn0.step)⟩
        ·rw [if_neg c12] at H
         have c12b0 : (t144 == 1) = false := beq_eq_false_iff_ne.mpr c12
         have c12b1 : (t144 != 1) = true := bne_iff_ne.mpr c12
         by_cases c14 : (wrap64 ((a0.size : Int) - a1)) < 2
         ·rw [if_pos c14] at H
          have c14b0 : decide ((wrap64 ((a0.size : Int) - a1)) < 2) = true := decide_eq_true c14
          clear c14
          simp only [Option.some.injEq, Prod.mk.injEq] at H
          obtain ⟨rfl, rfl, rfl⟩ := H
          have p9 : 0 ≤ (a1 : Int) := of_decide_eq_true (by first | (with_reducible assumption) | assumption)
          have q9 : a1 < (a0.size : Int) := of_decide_eq_true (by first | (with_reducible assumption) | assumption)
          have hx9 := bt_at a0 a1
          replace p9 := eq_true p9
          replace q9 := eq_true q9
          go_wp2_with (first | (go_at_call 71; (with_reducible refine (groatref08_First.calls kj2 (bt a0 a1) t144 _ A10.out).mono ?_); rintro e w' ⟨rfl, ⟨nd, rfl⟩⟩; (try first | exact ⟨rfl, _, World.drewN_drewN _ _ _⟩ | exact ⟨rfl, _, Eq.trans (World.drewN_drewN _ _ _) (congrArg (World.drewN _) (Nat.add_assoc _ _ _))⟩)))
          repeat (go_quiet (first | (go_at_call 71; (with_reducible refine (groatref08_First.calls kj2 (bt a0 a1) t144 _ A10.out).mono ?_); rintro e w' ⟨rfl, ⟨nd, rfl⟩⟩; (try first | exact ⟨rfl, _, World.drewN_drewN _ _ _⟩ | exact ⟨rfl, _, Eq.trans (World.drewN_drewN _ _ _) (congrArg (World.drewN _) (Nat.add_assoc _ _ _))⟩))); try go_wp2_with (first | (go_at_call 71; (with_reducible refine (groatref08_First.calls kj2 (bt a0 a1) t144 _ A10.out).mono ?_); rintro e w' ⟨rfl, ⟨nd, rfl⟩⟩; (try first | exact ⟨rfl, _, World.drewN_drewN _ _ _⟩ | exact ⟨rfl, _, Eq.trans (World.drewN_drewN _ _ _) (congrArg (World.drewN _) (Nat.add_assoc _ _ _))⟩))))
          go_ret3
          exact ⟨by first | rfl | (simp; done) | (simp [*]; done) | (simp [wrap64]; done), by repeat (first | exact Drawn0.refl _ | apply Drawn0.step)⟩
         ·rw [if_neg c14] at H
          have c14b0 : decide ((wrap64 ((a0.size : Int) - a1)) < 2) = false := decide_eq_false c14
          clear c14
          obtain ⟨ji15, hji15⟩ : ∃ j_ : Int, (wrap64 (a1 + 1)) = j_ := ⟨_, rfl⟩
          replace H : (if 0 ≤ (ji15) then (if (ji15) < (a0.size : Int) then (if (bt a0 (ji15)) = 0 then (some (0, 0, 13)) else (if (bt a0 (ji15)) > 127 then (some (0, 0, 13)) else (some (wrap64 ((wrap64 (256 * (wrap64 (bt a0 a1)))) + (wrap64 (bt a0 (ji15)))), wrap64 (a1 + 2), 0)))) else (none)) else (none)) = some (r1, r2, r3) := by first | (rw [hji15] at H; exact H) | (simp only [hji15] at H ⊢; exact H)
          (try rw [hji15] at A10)
          have hji15w : (IntKind.i64.wrap (a1 + 1)) = ji15 := (i64_w _).trans hji15
          by_cases c16 : 0 ≤ (ji15)
          ·rw [if_pos c16] at H
           have c16b0 : decide (0 ≤ (ji15)) = true := decide_eq_true c16
           clear c16
           by_cases c17 : (ji15) < (a0.size : Int)
           ·rw [if_pos c17] at H
            have c17b0 : decide ((ji15) < (a0.size : Int)) = true := decide_eq_true c17
            clear c17
            by_cases c19 : (bt a0 (ji15)) = 0
            ·rw [if_pos c19] at H
             have c19b0 : ((bt a0 (ji15)) == 0) = true := beq_iff_eq.mpr c19
             have c19b1 : ((bt a0 (ji15)) != 0) = false := bne_eq_false_iff_eq.mpr c19
             clear c19
             simp only [Option.some.injEq, Prod.mk.injEq] at H
             obtain ⟨rfl, rfl, rfl⟩ := H
             have p9 : 0 ≤ (a1 : Int) := of_decide_eq_true (by first | (with_reducible assumption) | assumption)
             have q9 : a1 < (a0.size : Int) := of_decide_eq_true (by first | (with_reducible assumption) | assumption)
             have hx9 := bt_at a0 a1
             replace p9 := eq_true p9
             replace q9 := eq_true q9
             go_wp2_with (first | (go_at_call 71; (with_reducible refine (groatref08_First.calls kj2 (bt a0 a1) t144 _ A10.out).mono ?_); rintro e w' ⟨rfl, ⟨nd, rfl⟩⟩; (try first | exact ⟨rfl, _, World.drewN_drewN _ _ _⟩ | exact ⟨rfl, _, Eq.trans (World.drewN_drewN _ _ _) (congrArg (World.drewN _) (Nat.add_assoc _ _ _))⟩); have p18 : 0 ≤ ((ji15) : Int) := of_decide_eq_true (by first | (with_reducible assumption) | assumption); have q18 : (ji15) < (a0.size : Int) := of_decide_eq_true (by first | (with_reducible assumption) | assumption); have hx18 := bt_at a0 (ji15); replace p18 := eq_true p18; replace q18 := eq_true q18))
             repeat (go_quiet (first | (go_at_call 71; (with_reducible refine (groatref08_First.calls kj2 (bt a0 a1) t144 _ A10.out).mono ?_); rintro e w' ⟨rfl, ⟨nd, rfl⟩⟩; (try first | exact ⟨rfl, _, World.drewN_drewN _ _ _⟩ | exact ⟨rfl, _, Eq.trans (World.drewN_drewN _ _ _) (congrArg (World.drewN _) (Nat.add_assoc _ _ _))⟩); have p18 : 0 ≤ ((ji15) : Int) := of_decide_eq_true (by first | (with_reducible assumption) | assumption); have q18 : (ji15) < (a0.size : Int) := of_decide_eq_true (by first | (with_reducible assumption) | assumption); have hx18 := bt_at a0 (ji15); replace p18 := eq_true p18; replace q18 := eq_true q18)); try go_wp2_with (first | (go_at_call 71; (with_reducible refine (groatref08_First.calls kj2 (bt a0 a1) t144 _ A10.out).mono ?_); rintro e w' ⟨rfl, ⟨nd, rfl⟩⟩; (try first | exact ⟨rfl, _, World.drewN_drewN _ _ _⟩ | exact ⟨rfl, _, Eq.trans (World.drewN_drewN _ _ _) (congrArg (World.drewN _) (Nat.add_assoc _ _ _))⟩); have p18 : 0 ≤ ((ji15) : Int) := of_decide_eq_true (by first | (with_reducible assumption) | assumption); have q18 : (ji15) < (a0.size : Int) := of_decide_eq_true (by first | (with_reducible assumption) | assumption); have hx18 := bt_at a0 (ji15); replace p18 := eq_true p18; replace q18 := eq_true q18)))
             go_ret3
             exact ⟨by first | rfl | (simp; done) | (simp only [← hji15] <;> (first | rfl | simp)) | (simp [*]; done), by repeat (first | exact Drawn0.refl _ | apply Drawn0.step)⟩
            ·rw [if_neg c19] at H
             have c19b0 : ((bt a0 (ji15)) == 0) = false := beq_eq_false_iff_ne.mpr c19
             have c19b1 : ((bt a0 (ji15)) != 0) = true := bne_iff_ne.mpr c19
             by_cases c21 : (bt a0 (ji15)) > 127
             ·rw [if_pos c21] at H
              have c21b0 : decide (127 < (bt a0 (ji15))) = true := decide_eq_true c21
              clear c21
              simp only [Option.some.injEq, Prod.mk.injEq] at H
              obtain ⟨rfl, rfl, rfl⟩ := H
              have p9 : 0 ≤ (a1 : Int) := of_decide_eq_true (by first | (with_reducible assumption) | assumption)
              have q9 : a1 < (a0.size : Int) := of_decide_eq_true (by first | (with_reducible assumption) | assumption)
              have hx9 := bt_at a0 a1
              replace p9 := eq_true p9
              replace q9 := eq_true q9
              go_wp2_with (first | (go_at_call 71; (with_reducible refine (groatref08_First.calls kj2 (bt a0 a1) t144 _ A10.out).mono ?_); rintro e w' ⟨rfl, ⟨nd, rfl⟩⟩; (try first | exact ⟨rfl, _, World.drewN_drewN _ _ _⟩ | exact ⟨rfl, _, Eq.trans (World.drewN_drewN _ _ _) (congrArg (World.drewN _) (Nat.add_assoc _ _ _))⟩); have p18 : 0 ≤ ((ji15) : Int) := of_decide_eq_true (by first | (with_reducible assumption) | assumption); have q18 : (ji15) < (a0.size : Int) := of_decide_eq_true (by first | (with_reducible assumption) | assumption); have hx18 := bt_at a0 (ji15); replace p18 := eq_true p18; replace q18 := eq_true q18; have p20 : 0 ≤ ((ji15) : Int) := of_decide_eq_true (by first | (with_reducible assumption) | assumption); have q20 : (ji15) < (a0.size : Int) := of_decide_eq_true (by first | (with_reducible assumption) | assumption); have hx20 := bt_at a0 (ji15); replace p20 := eq_true p20; replace q20 := eq_true q20))
              repeat (go_quiet (first | (go_at_call 71; (with_reducible refine (groatref08_First.calls kj2 (bt a0 a1) t144 _ A10.out).mono ?_); rintro e w' ⟨rfl, ⟨nd, rfl⟩⟩; (try first | exact ⟨rfl, _, World.drewN_drewN _ _ _⟩ | exact ⟨rfl, _, Eq.trans (World.drewN_drewN _ _ _) (congrArg (World.drewN _) (Nat.add_assoc _ _ _))⟩); have p18 : 0 ≤ ((ji15) : Int) := of_decide_eq_true (by first | (with_reducible assumption) | assumption); have q18 : (ji15) < (a0.size : Int) := of_decide_eq_true (by first | (with_reducible assumption) | assumption); have hx18 := bt_at a0 (ji15); replace p18 := eq_true p18; replace q18 := eq_true q18; have p20 : 0 ≤ ((ji15) : Int) := of_decide_eq_true (by first | (with_reducible assumption) | assumption); have q20 : (ji15) < (a0.size : Int) := of_decide_eq_true (by first | (with_reducible assumption) | assumption); have hx20 := bt_at a0 (ji15); replace p20 := eq_true p20; replace q20 := eq_true q20)); try go_wp2_with (first | (go_at_call 71; (with_reducible refine (groatref08_First.calls kj2 (bt a0 a1) t144 _ A10.out).mono ?_); rintro e w' ⟨rfl, ⟨nd, rfl⟩⟩; (try first | exact ⟨rfl, _, World.drewN_drewN _ _ _⟩ | exact ⟨rfl, _, Eq.trans (World.drewN_drewN _ _ _) (congrArg (World.drewN _) (Nat.add_assoc _ _ _))⟩); have p18 : 0 ≤ ((ji15) : Int) := of_decide_eq_true (by first | (with_reducible assumption) | assumption); have q18 : (ji15) < (a0.size : Int) := of_decide_eq_true (by first | (with_reducible assumption) | assumption); have hx18 := bt_at a0 (ji15); replace p18 := eq_true p18; replace q18 := eq_true q18; have p20 : 0 ≤ ((ji15) : Int) := of_decide_eq_true (by first | (with_reducible assumption) | assumption); have q20 : (ji15) < (a0.size : Int) := of_decide_eq_true (by first | (with_reducible assumption) | assumption); have hx20 := bt_at a0 (ji15); replace p20 := eq_true p20; replace q20 := eq_true q20)))
              go_ret3
              exact ⟨by first | rfl | (simp; done) | (simp only [← hji15] <;> (first | rfl | simp)) | (simp [*]; done), by repeat (first | exact Drawn0.refl _ | apply Drawn0.step)⟩
             ·rw [if_neg c21] at H
              have c21b0 : decide (127 < (bt a0 (ji15))) = false := decide_eq_false c21
              clear c21
              simp only [Option.some.injEq, Prod.mk.injEq] at H
              obtain ⟨rfl, rfl, rfl⟩ := H
              have p9 : 0 ≤ (a1 : Int) := of_decide_eq_true (by first | (with_reducible assumption) | assumption)
              have q9 : a1 < (a0.size : Int) := of_decide_eq_true (by first | (with_reducible assumption) | assumption)
              have hx9 := bt_at a0 a1
              replace p9 := eq_true p9
              replace q9 := eq_true q9
              go_wp2_with (first | (go_at_call 71; (with_reducible refine (groatref08_First.calls kj2 (bt a0 a1) t144 _ A10.out).mono ?_); rintro e w' ⟨rfl, ⟨nd, rfl⟩⟩; (try first | exact ⟨rfl, _, World.drewN_drewN _ _ _⟩ | exact ⟨rfl, _, Eq.trans (World.drewN_drewN _ _ _) (congrArg (World.drewN _) (Nat.add_assoc _ _ _))⟩); have p18 : 0 ≤ ((ji15) : Int) := of_decide_eq_true (by first | (with_reducible assumption) | assumption); have q18 : (ji15) < (a0.size : Int) := of_decide_eq_true (by first | (with_reducible assumption) | assumption); have hx18 := bt_at a0 (ji15); replace p18 := eq_true p18; replace q18 := eq_true q18; have p20 : 0 ≤ ((ji15) : Int) := of_decide_eq_true (by first | (with_reducible assumption) | assumption); have q20 : (ji15) < (a0.size : Int) := of_decide_eq_true (by first | (with_reducible assumption) | assumption); have hx20 := bt_at a0 (ji15); replace p20 := eq_true p20; replace q20 := eq_true q20; have p22 : 0 ≤ (a1 : Int) := of_decide_eq_true (by first | (with_reducible assumption) | assumption); have q22 : a1 < (a0.size : Int) := of_decide_eq_true (by first | (with_reducible assumption) | assumption); have hx22 := bt_at a0 a1; replace p22 := eq_true p22; replace q22 := eq_true q22; have p23 : 0 ≤ ((ji15) : Int) := of_decide_eq_true (by first | (with_reducible assumption) | assumption); have q23 : (ji15) < (a0.size : Int) := of_decide_eq_true (by first | (with_reducible assumption) | assumption); have hx23 := bt_at a0 (ji15); replace p23 := eq_true p23; replace q23 := eq_true q23))
              repeat (go_quiet (first | (go_at_call 71; (with_reducible refine (groatref08_First.calls kj2 (bt a0 a1) t144 _ A10.out).mono ?_); rintro e w' ⟨rfl, ⟨nd, rfl⟩⟩; (try first | exact ⟨rfl, _, World.drewN_drewN _ _ _⟩ | exact ⟨rfl, _, Eq.trans (World.drewN_drewN _ _ _) (congrArg (World.drewN _) (Nat.add_assoc _ _ _))⟩); have p18 : 0 ≤ ((ji15) : Int) := of_decide_eq_true (by first | (with_reducible assumption) | assumption); have q18 : (ji15) < (a0.size : Int) := of_decide_eq_true (by first | (with_reducible assumption) | assumption); have hx18 := bt_at a0 (ji15); replace p18 := eq_true p18; replace q18 := eq_true q18; have p20 : 0 ≤ ((ji15) : Int) := of_decide_eq_true (by first | (with_reducible assumption) | assumption); have q20 : (ji15) < (a0.size : Int) := of_decide_eq_true (by first | (with_reducible assumption) | assumption); have hx20 := bt_at a0 (ji15); replace p20 := eq_true p20; replace q20 := eq_true q20; have p22 : 0 ≤ (a1 : Int) := of_decide_eq_true (by first | (with_reducible assumption) | assumption); have q22 : a1 < (a0.size : Int) := of_decide_eq_true (by first | (with_reducible assumption) | assumption); have hx22 := bt_at a0 a1; replace p22 := eq_true p22; replace q22 := eq_true q22; have p23 : 0 ≤ ((ji15) : Int) := of_decide_eq_true (by first | (with_reducible assumption) | assumption); have q23 : (ji15) < (a0.size : Int) := of_decide_eq_true (by first | (with_reducible assumption) | assumption); have hx23 := bt_at a0 (ji15); replace p23 := eq_true p23; replace q23 := eq_true q23)); try go_wp2_with (first | (go_at_call 71; (with_reducible refine (groatref08_First.calls kj2 (bt a0 a1) t144 _ A10.out).mono ?_); rintro e w' ⟨rfl, ⟨nd, rfl⟩⟩; (try first | exact ⟨rfl, _, World.drewN_drewN _ _ _⟩ | exact ⟨rfl, _, Eq.trans (World.drewN_drewN _ _ _) (congrArg (World.drewN _) (Nat.add_assoc _ _ _))⟩); have p18 : 0 ≤ ((ji15) : Int) := of_decide_eq_true (by first | (with_reducible assumption) | assumption); have q18 : (ji15) < (a0.size : Int) := of_decide_eq_true (by first | (with_reducible assumption) | assumption); have hx18 := bt_at a0 (ji15); replace p18 := eq_true p18; replace q18 := eq_true q18; have p20 : 0 ≤ ((ji15) : Int) := of_decide_eq_true (by first | (with_reducible assumption) | assumption); have q20 : (ji15) < (a0.size : Int) := of_decide_eq_true (by first | (with_reducible assumption) | assumption); have hx20 := bt_at a0 (ji15); replace p20 := eq_true p20; replace q20 := eq_true q20; have p22 : 0 ≤ (a1 : Int) := of_decide_eq_true (by first | (with_reducible assumption) | assumption); have q22 : a1 < (a0.size : Int) := of_decide_eq_true (by first | (with_reducible assumption) | assumption); have hx22 := bt_at a0 a1; replace p22 := eq_true p22; replace q22 := eq_true q22; have p23 : 0 ≤ ((ji15) : Int) := of_decide_eq_true (by first | (with_reducible assumption) | assumption); have q23 : (ji15) < (a0.size : Int) := of_decide_eq_true (by first | (with_reducible assumption) | assumption); have hx23 := bt_at a0 (ji15); replace p23 := eq_true p23; replace q23 := eq_true q23)))
              go_ret3
              exact ⟨by first | rfl | (simp; done) | (simp only [← hji15] <;> (first | rfl | simp)) | (simp [*]; done), by repeat (first | exact Drawn0.refl _ | apply Drawn0.step)⟩
           ·rw [if_neg c17] at H
            exact absurd H (by simp)
          ·rw [if_neg c16] at H
           exact absurd H (by simp)
      ·rw [if_neg c8] at H
       exact absurd H (by simp)
     ·rw [if_neg c7] at H
      exact absurd H (by simp)
/-! ### groatref09_Get: function 54 -/
mutual
def groatref09_Get.j0 : Nat → ByteArray → Int → Bool → Option (Int × Int × Int)
 | 0, _, _, _ => none
 | k + 1, x0, x1, x15 => if x15 = true then (some (0, 0, 1)) else (if x1 = (x0.size : Int) then (some (0, 0, 2)) else (if 0 ≤ x1 then (if x1 < (x0.size : Int) then (if (wrap64 (bt x0 x1)) < 128 then (some (wrap64 (bt x0 x1), wrap64 (x1 + 1), 0)) else (if (wrap64 (bt x0 x1)) = 129 then (groatref09_Get.j1 k x0 x1 (wrap64 (bt x0 x1)) false) else (groatref09_Get.j1 k x0 x1 (wrap64 (bt x0 x1)) ((wrap64 (bt x0 x1)) != 130)))) else (none)) else (none)))
def groatref09_Get.j1 : Nat → ByteArray → Int → Int → Bool → Option (Int × Int × Int)
 | 0, _, _, _, _ => none
 | k + 1, x0, x1, x7, x34 => if x34 = true then (some (0, 0, 14)) else (if (wrap64 ((x0.size : Int) - x1)) < (wrap64 (x7 - 127)) then (some (0, 0, 2)) else (if x7 = 129 then (if 0 ≤ (wrap64 (x1 + 1)) then (if (wrap64 (x1 + 1)) < (x0.size : Int) then (if (bt x0 (wrap64 (x1 + 1))) < 128 then (some (0, 0, 14)) else (some (wrap64 (bt x0 (wrap64 (x1 + 1))), wrap64 (x1 + 2), 0))) else (none)) else (none)) else (if 0 ≤ (wrap64 (x1 + 1)) then (if (wrap64 (x1 + 1)) < (x0.size : Int) then (if (bt x0 (wrap64 (x1 + 1))) = 0 then (some (0, 0, 14)) else (if 0 ≤ (wrap64 (x1 + 2)) then (if (wrap64 (x1 + 2)) < (x0.size : Int) then (some (wrap64 ((wrap64 (256 * (wrap64 (bt x0 (wrap64 (x1 + 1)))))) + (wrap64 (bt x0 (wrap64 (x1 + 2))))), wrap64 (x1 + 3), 0)) else (none)) else (none))) else (none)) else (none))))
end
def groatref09_Get.f (k : Nat) (a0 : ByteArray) (a1 : Int) : Option (Int × Int × Int) := if a1 < 0 then (groatref09_Get.j0 k a0 a1 true) else (groatref09_Get.j0 k a0 a1 (decide (a1 > (a0.size : Int))))
theorem groatref09_Get.mono_l : ∀ k, (∀ y0 y1 y2, LeO (groatref09_Get.j0 k y0 y1 y2) (groatref09_Get.j0 (k + 1) y0 y1 y2)) ∧ (∀ y0 y1 y2 y3, LeO (groatref09_Get.j1 k y0 y1 y2 y3) (groatref09_Get.j1 (k + 1) y0 y1 y2 y3))
 | 0 => ⟨fun _ _ _ r h => by simp [groatref09_Get.j0] at h, fun _ _ _ _ r h => by simp [groatref09_Get.j1] at h⟩
 | k + 1 => by
  obtain ⟨ih0, ih1⟩ := groatref09_Get.mono_l k
  refine ⟨?_, ?_⟩
  ·intro y0 y1 y2
   unfold groatref09_Get.j0
   repeat' first
   | (with_reducible exact ih0 _ _ _)
   | (with_reducible exact ih1 _ _ _ _)
   | (with_reducible exact LeO.refl _)
   | (with_reducible exact LeO.none _)
   | (with_reducible refine LeO.ite ?_ ?_)
   | (with_reducible refine LeO.bind ?_ (fun _ => ?_))
   | exact ih0 _ _ _
   | exact ih1 _ _ _ _
   | exact LeO.none _
   | refine LeO.ite ?_ ?_
   | refine LeO.bind ?_ (fun _ => ?_)
  ·intro y0 y1 y2 y3
   unfold groatref09_Get.j1
   repeat' first
   | (with_reducible exact ih0 _ _ _)
   | (with_reducible exact ih1 _ _ _ _)
   | (with_reducible exact LeO.refl _)
   | (with_reducible exact LeO.none _)
   | (with_reducible refine LeO.ite ?_ ?_)
   | (with_reducible refine LeO.bind ?_ (fun _ => ?_))
   | exact ih0 _ _ _
   | exact ih1 _ _ _ _
   | exact LeO.none _
   | refine LeO.ite ?_ ?_
   | refine LeO.bind ?_ (fun _ => ?_)
theorem groatref09_Get.mono : ∀ a0 a1 k, LeO (groatref09_Get.f k a0 a1) (groatref09_Get.f (k + 1) a0 a1) := by
 intro a0 a1 k
 obtain ⟨ih0, ih1⟩ := groatref09_Get.mono_l k
 unfold groatref09_Get.f
 repeat' first
   | (with_reducible exact ih0 _ _ _)
   | (with_reducible exact ih1 _ _ _ _)
   | (with_reducible exact LeO.refl _)
   | (with_reducible exact LeO.none _)
   | (with_reducible refine LeO.ite ?_ ?_)
   | (with_reducible refine LeO.bind ?_ (fun _ => ?_))
   | exact ih0 _ _ _
   | exact ih1 _ _ _ _
   | exact LeO.none _
   | refine LeO.ite ?_ ?_
   | refine LeO.bind ?_ (fun _ => ?_)
set_option maxHeartbeats 8000000 in
set_option maxRecDepth 100000 in
theorem groatref09_Get.calls (k : Nat) (a0 : ByteArray) (a1 : Int) (r1 : Int) (r2 : Int) (r3 : Int) (w : World) (h : groatref09_Get.f k a0 a1 = some (r1, r2, r3)) :
  Calls Try.prog 54 #[.string a0, .int .i64 a1] w fun e w' => e = .returned (.tuple #[.int .i64 r1, .int .i64 r2, .int .i64 r3]) ∧ Drawn0 w w' := by
 have H : (if a1 < 0 then (groatref09_Get.j0 k a0 a1 true) else (groatref09_Get.j0 k a0 a1 (decide (a1 > (a0.size : Int))))) = some (r1, r2, r3) := h
 clear h
 have HC3 := Aside0.mk H
 clear H
 go_enter Try.func54, Try.ntmps54
 go_upto_region 1 with (fail)
 repeat (go_quiet (fail); go_upto_region 1 with (fail))
 go_cut [15] (fun v15 wc => ∃ (kq : Nat) (x15_2 : Bool), v15 = .bool x15_2 ∧ Aside0 (groatref09_Get.j0 kq a0 a1 x15_2 = some (r1, r2, r3)) ∧ Aside0 (kq ≤ k) ∧ Drawn0 w wc)
 case first =>
  have H := HC3.out
  clear HC3
  by_cases c4 : a1 < 0
  ·rw [if_pos c4] at H
   have c4b0 : decide (a1 < 0) = true := decide_eq_true c4
   clear c4
   (first | rw [c4b0] | (simp only [i64_w, i32_w]; rw [c4b0]) | skip)
   have H' := Aside0.mk H
   clear H
   go_wp2
   repeat (go_quiet (fail); try go_wp2)
   go_meet
   case rel => exact ⟨_, (true), (by first | rfl | (simp; done) | (simp [*]; done) | (simp [wrap64]; done)), H', ⟨by first | omega | exact Nat.le_refl _⟩, by repeat (first | exact Drawn0.refl _ | apply Drawn0.step)⟩
  ·rw [if_neg c4] at H
   have c4b0 : decide (a1 < 0) = false := decide_eq_false c4
   clear c4
   (first | rw [c4b0] | (simp only [i64_w, i32_w]; rw [c4b0]) | skip)
   have H' := Aside0.mk H
   clear H
   go_wp2
   repeat (go_quiet (fail); try go_wp2)
   go_meet
   case rel => exact ⟨_, (decide (a1 > (a0.size : Int))), (by first | rfl | (simp; done) | (simp [*]; done) | (simp [wrap64]; done)), H', ⟨by first | omega | exact Nat.le_refl _⟩, by repeat (first | exact Drawn0.refl _ | apply Drawn0.step)⟩
 case rest =>
  clear HC3
  try clear p2
  try clear c4
  try clear c4b0
  obtain ⟨kq, x15_2, rfl, HA, HJ2, ⟨mc2, rfl⟩⟩ := hcut
  cases kq with
  | zero => exact absurd HA.out (by simp [groatref09_Get.j0])
  | succ kj2 =>
   have H := HA.out
   clear HA
   simp only [groatref09_Get.j0] at H
   by_cases c5 : x15_2 = true
   ·subst c5
    have H1 : (some (0, 0, 1)) = some (r1, r2, r3) := by rw [if_pos rfl] at H; exact H
    clear H
    have H := H1
    clear H1
    simp only [Option.some.injEq, Prod.mk.injEq] at H
    obtain ⟨rfl, rfl, rfl⟩ := H
    go_wp2
    repeat (go_quiet (fail); try go_wp2)
    go_ret3
    exact ⟨by first | rfl | (simp; done) | (simp [*]; done) | (simp [wrap64]; done), by repeat (first | exact Drawn0.refl _ | apply Drawn0.step)⟩
   ·replace c5 := Bool.eq_false_iff.mpr c5
    subst c5
    have H1 : (if a1 = (a0.size : Int) then (some (0, 0, 2)) else (if 0 ≤ a1 then (if a1 < (a0.size : Int) then (if (wrap64 (bt a0 a1)) < 128 then (some (wrap64 (bt a0 a1), wrap64 (a1 + 1), 0)) else (if (wrap64 (bt a0 a1)) = 129 then (groatref09_Get.j1 kj2 a0 a1 (wrap64 (bt a0 a1)) false) else (groatref09_Get.j1 kj2 a0 a1 (wrap64 (bt a0 a1)) ((wrap64 (bt a0 a1)) != 130)))) else (none)) else (none))) = some (r1, r2, r3) := by rw [if_neg (show ¬ (false = true) by decide)] at H; exact H
    clear H
    have H := H1
    clear H1
    by_cases c6 : a1 = (a0.size : Int)
    ·rw [if_pos c6] at H
     have c6b0 : (a1 == (a0.size : Int)) = true := beq_iff_eq.mpr c6
     have c6b1 : (a1 != (a0.size : Int)) = false := bne_eq_false_iff_eq.mpr c6
     clear c6
     simp only [Option.some.injEq, Prod.mk.injEq] at H
     obtain ⟨rfl, rfl, rfl⟩ := H
     go_wp2
     repeat (go_quiet (fail); try go_wp2)
     go_ret3
     exact ⟨by first | rfl | (simp; done) | (simp [*]; done) | (simp [wrap64]; done), by repeat (first | exact Drawn0.refl _ | apply Drawn0.step)⟩
    ·rw [if_neg c6] at H
     have c6b0 : (a1 == (a0.size : Int)) = false := beq_eq_false_iff_ne.mpr c6
     have c6b1 : (a1 != (a0.size : Int)) = true := bne_iff_ne.mpr c6
     by_cases c7 : 0 ≤ a1
     ·rw [if_pos c7] at H
      have c7b0 : decide (0 ≤ a1) = true := decide_eq_true c7
      clear c7
      by_cases c8 : a1 < (a0.size : Int)
      ·rw [if_pos c8] at H
       have c8b0 : decide (a1 < (a0.size : Int)) = true := decide_eq_true c8
       clear c8
       by_cases c10 : (wrap64 (bt a0 a1)) < 128
       ·rw [if_pos c10] at H
        have c10b0 : decide ((wrap64 (bt a0 a1)) < 128) = true := decide_eq_true c10
        clear c10
        simp only [Option.some.injEq, Prod.mk.injEq] at H
        obtain ⟨rfl, rfl, rfl⟩ := H
        have p9 : 0 ≤ (a1 : Int) := of_decide_eq_true (by first | (with_reducible assumption) | assumption)
        have q9 : a1 < (a0.size : Int) := of_decide_eq_true (by first | (with_reducible assumption) | assumption)
        have hx9 := bt_at a0 a1
        replace p9 := eq_true p9
        replace q9 := eq_true q9
        go_wp2
        repeat (go_quiet (fail); try go_wp2)
        go_ret3
        exact ⟨by first | rfl | (simp; done) | (simp [*]; done) | (simp [wrap64]; done), by repeat (first | exact Drawn0.refl _ | apply Drawn0.step)⟩
       ·rw [if_neg c10] at H
        have c10b0 : decide ((wrap64 (bt a0 a1)) < 128) = false := decide_eq_false c10
        clear c10
        have HC11 := Aside0.mk H
        clear H
        have p9 : 0 ≤ (a1 : Int) := of_decide_eq_true (by first | (with_reducible assumption) | assumption)
        have q9 : a1 < (a0.size : Int) := of_decide_eq_true (by first | (with_reducible assumption) | assumption)
        have hx9 := bt_at a0 a1
        replace p9 := eq_true p9
        replace q9 := eq_true q9
        go_upto_region 8 with (fail)
        repeat (go_quiet (fail); go_upto_region 8 with (fail))
        go_cut [34] (fun v34 wc => ∃ (kq : Nat) (x34_10 : Bool), v34 = .bool x34_10 ∧ Aside0 (groatref09_Get.j1 kq a0 a1 (wrap64 (bt a0 a1)) x34_10 = some (r1, r2, r3)) ∧ Aside0 (kq ≤ kj2) ∧ Drawn0 w wc)
        case first =>
         have H := HC11.out
         clear HC11
         by_cases c12 : (wrap64 (bt a0 a1)) = 129
         ·rw [if_pos c12] at H
          have c12b0 : ((wrap64 (bt a0 a1)) == 129) = true := beq_iff_eq.mpr c12
          have c12b1 : ((wrap64 (bt a0 a1)) != 129) = false := bne_eq_false_iff_eq.mpr c12
          clear c12
          (first | rw [c12b0] | (simp only [i64_w, i32_w]; rw [c12b0]) | skip)
          have H' := Aside0.mk H
          clear H
          go_wp2
          repeat (go_quiet (fail); try go_wp2)
          go_meet
          case rel => exact ⟨_, (false), (by first | rfl | (simp; done) | (simp [*]; done) | (simp [wrap64]; done)), H', ⟨by have := HJ2.out; first | omega | exact Nat.le_refl _⟩, by repeat (first | exact Drawn0.refl _ | apply Drawn0.step)⟩
         ·rw [if_neg c12] at H
          have c12b0 : ((wrap64 (bt a0 a1)) == 129) = false := beq_eq_false_iff_ne.mpr c12
          have c12b1 : ((wrap64 (bt a0 a1)) != 129) = true := bne_iff_ne.mpr c12
          (first | rw [c12b0] | (simp only [i64_w, i32_w]; rw [c12b0]) | skip)
          have H' := Aside0.mk H
          clear H
          go_wp2
          repeat (go_quiet (fail); try go_wp2)
          go_meet
          case rel => exact ⟨_, (((wrap64 (bt a0 a1)) != 130)), (by first | rfl | (simp; done) | (simp [*]; done) | (simp [wrap64]; done)), H', ⟨by have := HJ2.out; first | omega | exact Nat.le_refl _⟩, by repeat (first | exact Drawn0.refl _ | apply Drawn0.step)⟩
        case rest =>
         clear HC11
         try clear c1
         try clear c2
         try clear p2
         try clear c4
         try clear c4b0
         try clear c5
         try clear c6
         try clear c6b0
         try clear c6b1
         try clear p6
         try clear c7
         try clear c7b0
         try clear c8
         try clear c8b0
         try clear p9
         try clear q9
         try clear hx9
         try clear c10
         try clear c10b0
         try clear c12
         try clear c12b0
         try clear c12b1
         try clear p2
         try clear p9
         try clear q9
         obtain ⟨kq, x34_10, rfl, HA, HJ10, ⟨mc10, rfl⟩⟩ := hcut
         cases kq with
         | zero => exact absurd HA.out (by simp [groatref09_Get.j1])
         | succ kj10 =>
          have H := HA.out
          clear HA
          simp only [groatref09_Get.j1] at H
          by_cases c13 : x34_10 = true
          ·subst c13
           have H1 : (some (0, 0, 14)) = some (r1, r2, r3) := by rw [if_pos rfl] at H; exact H
           clear H
           have H := H1
           clear H1
           simp only [Option.some.injEq, Prod.mk.injEq] at H
           obtain ⟨rfl, rfl, rfl⟩ := H
           go_wp2
           repeat (go_quiet (fail); try go_wp2)
           go_ret3
           exact ⟨by first | rfl | (simp; done) | (simp [*]; done) | (simp [wrap64]; done), by repeat (first | exact Drawn0.refl _ | apply Drawn0.step)⟩
          ·replace c13 := Bool.eq_false_iff.mpr c13
           subst c13
           have H1 : (if (wrap64 ((a0.size : Int) - a1)) < (wrap64 ((wrap64 (bt a0 a1)) - 127)) then (some (0, 0, 2)) else (if (wrap64 (bt a0 a1)) = 129 then (if 0 ≤ (wrap64 (a1 + 1)) then (if (wrap64 (a1 + 1)) < (a0.size : Int) then (if (bt a0 (wrap64 (a1 + 1))) < 128 then (some (0, 0, 14)) else (some (wrap64 (bt a0 (wrap64 (a1 + 1))), wrap64 (a1 + 2), 0))) else (none)) else (none)) else (if 0 ≤ (wrap64 (a1 + 1)) then (if (wrap64 (a1 + 1)) < (a0.size : Int) then (if (bt a0 (wrap64 (a1 + 1))) = 0 then (some (0, 0, 14)) else (if 0 ≤ (wrap64 (a1 + 2)) then (if (wrap64 (a1 + 2)) < (a0.size : Int) then (some (wrap64 ((wrap64 (256 * (wrap64 (bt a0 (wrap64 (a1 + 1)))))) + (wrap64 (bt a0 (wrap64 (a1 + 2))))), wrap64 (a1 + 3), 0)) else (none)) else (none))) else (none)) else (none)))) = some (r1, r2, r3) := by rw [if_neg (show ¬ (false = true) by decide)] at H; exact H
           clear H
           have H := H1
           clear H1
           by_cases c14 : (wrap64 ((a0.size : Int) - a1)) < (wrap64 ((wrap64 (bt a0 a1)) - 127))
           ·rw [if_pos c14] at H
            have c14b0 : decide ((wrap64 ((a0.size : Int) - a1)) < (wrap64 ((wrap64 (bt a0 a1)) - 127))) = true := decide_eq_true c14
            clear c14
            simp only [Option.some.injEq, Prod.mk.injEq] at H
            obtain ⟨rfl, rfl, rfl⟩ := H
            go_wp2
            repeat (go_quiet (fail); try go_wp2)
            go_ret3
            exact ⟨by first | rfl | (simp; done) | (simp [*]; done) | (simp [wrap64]; done), by repeat (first | exact Drawn0.refl _ | apply Drawn0.step)⟩
           ·rw [if_neg c14] at H
            have c14b0 : decide ((wrap64 ((a0.size : Int) - a1)) < (wrap64 ((wrap64 (bt a0 a1)) - 127))) = false := decide_eq_false c14
            clear c14
            by_cases c15 : (wrap64 (bt a0 a1)) = 129
            ·rw [if_pos c15] at H
             have c15b0 : ((wrap64 (bt a0 a1)) == 129) = true := beq_iff_eq.mpr c15
             have c15b1 : ((wrap64 (bt a0 a1)) != 129) = false := bne_eq_false_iff_eq.mpr c15
             clear c15
             obtain ⟨ji16, hji16⟩ : ∃ j_ : Int, (wrap64 (a1 + 1)) = j_ := ⟨_, rfl⟩
             replace H : (if 0 ≤ (ji16) then (if (ji16) < (a0.size : Int) then (if (bt a0 (ji16)) < 128 then (some (0, 0, 14)) else (some (wrap64 (bt a0 (ji16)), wrap64 (a1 + 2), 0))) else (none)) else (none)) = some (r1, r2, r3) := by first | (rw [hji16] at H; exact H) | (simp only [hji16] at H ⊢; exact H)
             have hji16w : (IntKind.i64.wrap (a1 + 1)) = ji16 := (i64_w _).trans hji16
             by_cases c17 : 0 ≤ (ji16)
             ·rw [if_pos c17] at H
              have c17b0 : decide (0 ≤ (ji16)) = true := decide_eq_true c17
              clear c17
              by_cases c18 : (ji16) < (a0.size : Int)
              ·rw [if_pos c18] at H
               have c18b0 : decide ((ji16) < (a0.size : Int)) = true := decide_eq_true c18
               clear c18
               by_cases c20 : (bt a0 (ji16)) < 128
               ·rw [if_pos c20] at H
                have c20b0 : decide ((bt a0 (ji16)) < 128) = true := decide_eq_true c20
                clear c20
                simp only [Option.some.injEq, Prod.mk.injEq] at H
                obtain ⟨rfl, rfl, rfl⟩ := H
                have p19 : 0 ≤ ((ji16) : Int) := of_decide_eq_true (by first | (with_reducible assumption) | assumption)
                have q19 : (ji16) < (a0.size : Int) := of_decide_eq_true (by first | (with_reducible assumption) | assumption)
                have hx19 := bt_at a0 (ji16)
                replace p19 := eq_true p19
                replace q19 := eq_true q19
                go_wp2
                repeat (go_quiet (fail); try go_wp2)
                go_ret3
                exact ⟨by first | rfl | (simp; done) | (simp only [← hji16] <;> (first | rfl | simp)) | (simp [*]; done), by repeat (first | exact Drawn0.refl _ | apply Drawn0.step)⟩
               ·rw [if_neg c20] at H
                have c20b0 : decide ((bt a0 (ji16)) < 128) = false := decide_eq_false c20
                clear c20
                simp only [Option.some.injEq, Prod.mk.injEq] at H
                obtain ⟨rfl, rfl, rfl⟩ := H
                have p19 : 0 ≤ ((ji16) : Int) := of_decide_eq_true (by first | (with_reducible assumption) | assumption)
                have q19 : (ji16) < (a0.size : Int) := of_decide_eq_true (by first | (with_reducible assumption) | assumption)
                have hx19 := bt_at a0 (ji16)
                replace p19 := eq_true p19
                replace q19 := eq_true q19
                have p21 : 0 ≤ ((ji16) : Int) := of_decide_eq_true (by first | (with_reducible assumption) | assumption)
                have q21 : (ji16) < (a0.size : Int) := of_decide_eq_true (by first | (with_reducible assumption) | assumption)
                have hx21 := bt_at a0 (ji16)
                replace p21 := eq_true p21
                replace q21 := eq_true q21
                go_wp2
                repeat (go_quiet (fail); try go_wp2)
                go_ret3
                exact ⟨by first | rfl | (simp; done) | (simp only [← hji16] <;> (first | rfl | simp)) | (simp [*]; done), by repeat (first | exact Drawn0.refl _ | apply Drawn0.step)⟩
              ·rw [if_neg c18] at H
               exact absurd H (by simp)
             ·rw [if_neg c17] at H
              exact absurd H (by simp)
            ·rw [if_neg c15] at H
             have c15b0 : ((wrap64 (bt a0 a1)) == 129) = false := beq_eq_false_iff_ne.mpr c15
             have c15b1 : ((wrap64 (bt a0 a1)) != 129) = true := bne_iff_ne.mpr c15
             obtain ⟨ji22, hji22⟩ : ∃ j_ : Int, (wrap64 (a1 + 1)) = j_ := ⟨_, rfl⟩
             replace H : (if 0 ≤ (ji22) then (if (ji22) < (a0.size : Int) then (if (bt a0 (ji22)) = 0 then (some (0, 0, 14)) else (if 0 ≤ (wrap64 (a1 + 2)) then (if (wrap64 (a1 + 2)) < (a0.size : Int) then (some (wrap64 ((wrap64 (256 * (wrap64 (bt a0 (ji22))))) + (wrap64 (bt a0 (wrap64 (a1 + 2))))), wrap64 (a1 + 3), 0)) else (none)) else (none))) else (none)) else (none)) = some (r1, r2, r3) := by first | (rw [hji22] at H; exact H) | (simp only [hji22] at H ⊢; exact H)
             have hji22w : (IntKind.i64.wrap (a1 + 1)) = ji22 := (i64_w _).trans hji22
             by_cases c23 : 0 ≤ (ji22)
             ·rw [if_pos c23] at H
              have c23b0 : decide (0 ≤ (ji22)) = true := decide_eq_true c23
              clear c23
              by_cases c24 : (ji22) < (a0.size : Int)
              ·rw [if_pos c24] at H
               have c24b0 : decide ((ji22) < (a0.size : Int)) = true := decide_eq_true c24
               clear c24
               by_cases c26 : (bt a0 (ji22)) = 0
               ·rw [if_pos c26] at H
                have c26b0 : ((bt a0 (ji22)) == 0) = true := beq_iff_eq.mpr c26
                have c26b1 : ((bt a0 (ji22)) != 0) = false := bne_eq_false_iff_eq.mpr c26
                clear c26
                simp only [Option.some.injEq, Prod.mk.injEq] at H
                obtain ⟨rfl, rfl, rfl⟩ := H
                have p25 : 0 ≤ ((ji22) : Int) := of_decide_eq_true (by first | (with_reducible assumption) | assumption)
                have q25 : (ji22) < (a0.size : Int) := of_decide_eq_true (by first | (with_reducible assumption) | assumption)
                have hx25 := bt_at a0 (ji22)
                replace p25 := eq_true p25
                replace q25 := eq_true q25
                go_wp2
                repeat (go_quiet (fail); try go_wp2)
                go_ret3
                exact ⟨by first | rfl | (simp; done) | (simp only [← hji22] <;> (first | rfl | simp)) | (simp [*]; done), by repeat (first | exact Drawn0.refl _ | apply Drawn0.step)⟩
               ·rw [if_neg c26] at H
                have c26b0 : ((bt a0 (ji22)) == 0) = false := beq_eq_false_iff_ne.mpr c26
                have c26b1 : ((bt a0 (ji22)) != 0) = true := bne_iff_ne.mpr c26
                obtain ⟨ji28, hji28⟩ : ∃ j_ : Int, (wrap64 (a1 + 2)) = j_ := ⟨_, rfl⟩
                replace H : (if 0 ≤ (ji28) then (if (ji28) < (a0.size : Int) then (some (wrap64 ((wrap64 (256 * (wrap64 (bt a0 (ji22))))) + (wrap64 (bt a0 (ji28)))), wrap64 (a1 + 3), 0)) else (none)) else (none)) = some (r1, r2, r3) := by first | (rw [hji28] at H; exact H) | (simp only [hji28] at H ⊢; exact H)
                have hji28w : (IntKind.i64.wrap (a1 + 2)) = ji28 := (i64_w _).trans hji28
                by_cases c29 : 0 ≤ (ji28)
                ·rw [if_pos c29] at H
                 have c29b0 : decide (0 ≤ (ji28)) = true := decide_eq_true c29
                 clear c29
                 by_cases c30 : (ji28) < (a0.size : Int)
                 ·rw [if_pos c30] at H
                  have c30b0 : decide ((ji28) < (a0.size : Int)) = true := decide_eq_true c30
                  clear c30
                  simp only [Option.some.injEq, Prod.mk.injEq] at H
                  obtain ⟨rfl, rfl, rfl⟩ := H
                  have p25 : 0 ≤ ((ji22) : Int) := of_decide_eq_true (by first | (with_reducible assumption) | assumption)
                  have q25 : (ji22) < (a0.size : Int) := of_decide_eq_true (by first | (with_reducible assumption) | assumption)
                  have hx25 := bt_at a0 (ji22)
                  replace p25 := eq_true p25
                  replace q25 := eq_true q25
                  have p27 : 0 ≤ ((ji22) : Int) := of_decide_eq_true (by first | (with_reducible assumption) | assumption)
                  have q27 : (ji22) < (a0.size : Int) := of_decide_eq_true (by first | (with_reducible assumption) | assumption)
                  have hx27 := bt_at a0 (ji22)
                  replace p27 := eq_true p27
                  replace q27 := eq_true q27
                  have p31 : 0 ≤ ((ji28) : Int) := of_decide_eq_true (by first | (with_reducible assumption) | assumption)
                  have q31 : (ji28) < (a0.size : Int) := of_decide_eq_true (by first | (with_reducible assumption) | assumption)
                  have hx31 := bt_at a0 (ji28)
                  replace p31 := eq_true p31
                  replace q31 := eq_true q31
                  go_wp2
                  repeat (go_quiet (fail); try go_wp2)
                  go_ret3
                  exact ⟨by first | rfl | (simp; done) | (simp only [← hji22, ← hji28] <;> (first | rfl | simp)) | (simp [*]; done), by repeat (first | exact Drawn0.refl _ | apply Drawn0.step)⟩
                 ·rw [if_neg c30] at H
                  exact absurd H (by simp)
                ·rw [if_neg c29] at H
                 exact absurd H (by simp)
              ·rw [if_neg c24] at H
               exact absurd H (by simp)
             ·rw [if_neg c23] at H
              exact absurd H (by simp)
      ·rw [if_neg c8] at H
       exact absurd H (by simp)
     ·rw [if_neg c7] at H
      exact absurd H (by simp)
/-! ### groatref10_has: function 55 -/
def groatref10_has.l0 : Nat → List (S74) → Int → Int → Int → Option (Bool)
 | 0, _, _, _, _ => none
 | k + 1, x0, x1, x2, x7 => if x7 < x1 then (if 0 ≤ x7 then (if x7 < (x0.length : Int) then (if ((rd_T74 x0 x7).f0) = x2 then (some true) else (groatref10_has.l0 k x0 x1 x2 (wrap64 (x7 + 1)))) else (none)) else (none)) else (some false)
def groatref10_has.f (k : Nat) (l0 : List (S74)) (a1 : Int) (a2 : Int) : Option (Bool) := groatref10_has.l0 k l0 a1 a2 0
theorem groatref10_has.mono_l : ∀ k, (∀ y0 y1 y2 y3, LeO (groatref10_has.l0 k y0 y1 y2 y3) (groatref10_has.l0 (k + 1) y0 y1 y2 y3))
 | 0 => fun _ _ _ _ r h => by simp [groatref10_has.l0] at h
 | k + 1 => by
  have ih0 := groatref10_has.mono_l k
  ·intro y0 y1 y2 y3
   unfold groatref10_has.l0
   repeat' first
   | (with_reducible exact ih0 _ _ _ _)
   | (with_reducible exact LeO.refl _)
   | (with_reducible exact LeO.none _)
   | (with_reducible refine LeO.ite ?_ ?_)
   | (with_reducible refine LeO.bind ?_ (fun _ => ?_))
   | exact ih0 _ _ _ _
   | exact LeO.none _
   | refine LeO.ite ?_ ?_
   | refine LeO.bind ?_ (fun _ => ?_)
theorem groatref10_has.mono : ∀ a0 a1 a2 k, LeO (groatref10_has.f k a0 a1 a2) (groatref10_has.f (k + 1) a0 a1 a2) := by
 intro a0 a1 a2 k
 have ih0 := groatref10_has.mono_l k
 unfold groatref10_has.f
 repeat' first
   | (with_reducible exact ih0 _ _ _ _)
   | (with_reducible exact LeO.refl _)
   | (with_reducible exact LeO.none _)
   | (with_reducible refine LeO.ite ?_ ?_)
   | (with_reducible refine LeO.bind ?_ (fun _ => ?_))
   | exact ih0 _ _ _ _
   | exact LeO.none _
   | refine LeO.ite ?_ ?_
   | refine LeO.bind ?_ (fun _ => ?_)
set_option maxHeartbeats 8000000 in
set_option maxRecDepth 100000 in
theorem groatref10_has.calls (k : Nat) (A0 : Option Addr) (c0 : Nat) (l0 : List (S74)) (a1 : Int) (a2 : Int) (r : Bool) (w : World) (hr0 : Kd.C k74 w A0 l0.length l0) (hc0 : l0.length ≤ c0) (h : groatref10_has.f k l0 a1 a2 = some r) :
  Calls Try.prog 55 #[.slice A0 l0.length c0, .int .i64 a1, .int .i64 a2] w fun e w' => e = .returned (.bool r) ∧ Drawn0 w w' := by
 have HR0 := Aside0.mk hr0
 have HC0 := Aside0.mk hc0
 clear hr0 hc0
 have H : (groatref10_has.l0 k l0 a1 a2 0) = some r := h
 clear h
 have H' := Aside0.mk H
 clear H
 go_enter Try.func55, Try.ntmps55
 go_wp2
 go_loopg [7] k (fun kq v7 w' => ∃ (x7_1 : Int), v7 = .int .i64 x7_1 ∧ Aside0 (groatref10_has.l0 kq l0 a1 a2 x7_1 = some r) ∧ Aside0 (kq ≤ k) ∧ Drawn0 w w')
 case atStart => exact ⟨(0), (by first | rfl | (simp; done) | (simp [*]; done) | (simp [wrap64]; done)), H', ⟨Nat.le_refl _⟩, by repeat (first | exact Drawn0.refl _ | apply Drawn0.step)⟩
 case round =>
  clear H'
  try clear p2
  obtain ⟨x7_1, rfl, HA, HK1, ⟨m1, rfl⟩⟩ := hrel
  cases gk with
  | zero => exact absurd HA.out (by simp [groatref10_has.l0])
  | succ k1 =>
   have H := HA.out
   clear HA
   simp only [groatref10_has.l0] at H
   by_cases c4 : x7_1 < a1
   ·rw [if_pos c4] at H
    have c4b0 : decide (x7_1 < a1) = true := decide_eq_true c4
    clear c4
    by_cases c5 : 0 ≤ x7_1
    ·rw [if_pos c5] at H
     have c5b0 : decide (0 ≤ x7_1) = true := decide_eq_true c5
     clear c5
     by_cases c6 : x7_1 < (l0.length : Int)
     ·rw [if_pos c6] at H
      have c6b0 : decide (x7_1 < (l0.length : Int)) = true := decide_eq_true c6
      clear c6
      by_cases c7 : ((rd_T74 l0 x7_1).f0) = a2
      ·rw [if_pos c7] at H
       have c7b0 : (((rd_T74 l0 x7_1).f0) == a2) = true := beq_iff_eq.mpr c7
       have c7b1 : (((rd_T74 l0 x7_1).f0) != a2) = false := bne_eq_false_iff_eq.mpr c7
       clear c7
       obtain rfl := Option.some.inj H
       have p145 : 0 ≤ (x7_1 : Int) := of_decide_eq_true (by first | (with_reducible assumption) | assumption)
       have q145 : x7_1 < (l0.length : Int) := of_decide_eq_true (by first | (with_reducible assumption) | assumption)
       obtain ⟨ad145, e145, hx145_0, hx145_1⟩ := at_T74 HR0.out x7_1 p145 q145
       cases e145
       replace p145 := eq_true p145
       replace q145 := eq_true q145
       go_wp2
       go_ret
       exact ⟨by first | rfl | (simp; done) | (simp [*]; done) | (simp [wrap64]; done), by repeat (first | exact Drawn0.refl _ | apply Drawn0.step)⟩
      ·rw [if_neg c7] at H
       have c7b0 : (((rd_T74 l0 x7_1).f0) == a2) = false := beq_eq_false_iff_ne.mpr c7
       have c7b1 : (((rd_T74 l0 x7_1).f0) != a2) = true := bne_iff_ne.mpr c7
       have H' := Aside0.mk H
       clear H
       have p145 : 0 ≤ (x7_1 : Int) := of_decide_eq_true (by first | (with_reducible assumption) | assumption)
       have q145 : x7_1 < (l0.length : Int) := of_decide_eq_true (by first | (with_reducible assumption) | assumption)
       obtain ⟨ad145, e145, hx145_0, hx145_1⟩ := at_T74 HR0.out x7_1 p145 q145
       cases e145
       replace p145 := eq_true p145
       replace q145 := eq_true q145
       go_wp2
       go_roundg k1
       case measure => have := HK1.out; omega
       case rel => exact ⟨(wrap64 (x7_1 + 1)), (by first | rfl | (simp; done) | (simp [*]; done) | (simp [wrap64]; done)), H', ⟨by have := HK1.out; omega⟩, by repeat (first | exact Drawn0.refl _ | apply Drawn0.step)⟩
     ·rw [if_neg c6] at H
      exact absurd H (by simp)
    ·rw [if_neg c5] at H
     exact absurd H (by simp)
   ·rw [if_neg c4] at H
    have c4b0 : decide (x7_1 < a1) = false := decide_eq_false c4
    clear c4
    obtain rfl := Option.some.inj H
    go_wp2
    go_ret
    exact ⟨by first | rfl | (simp; done) | (simp [*]; done) | (simp [wrap64]; done), by repeat (first | exact Drawn0.refl _ | apply Drawn0.step)⟩
/-! ### groatref10_Get: function 30 -/
def groatref10_Get.l0 : Nat → ByteArray → List (S74) → Int → Option ((List (S74)) × Int × Int)
 | 0, _, _, _ => none
 | k + 1, x0, x5, x6 => if x6 < (x0.size : Int) then ((groatref08_Get.f k x0 x6).bind fun bt149 => (if bt149.2.2 = 0 then ((groatref09_Get.f k x0 bt149.2.1).bind fun bt152 => (if bt152.2.2 = 0 then (if (wrap64 ((x0.size : Int) - bt152.2.1)) < bt152.1 then (some (([] : List (S74)), 2, (x0.size : Int))) else ((groatref10_has.f k x5 (x5.length : Int) bt149.1).bind fun t155 => (if t155 = true then (some (([] : List (S74)), 10, x6)) else (if 0 ≤ bt152.2.1 then (if bt152.2.1 ≤ (wrap64 (bt152.2.1 + bt152.1)) then (if (wrap64 (bt152.2.1 + bt152.1)) ≤ (x0.size : Int) then (if x5.length < 5864062014805 then (groatref10_Get.l0 k x0 (x5 ++ [(⟨bt149.1, x0.extract (bt152.2.1 : Int).toNat ((wrap64 (bt152.2.1 + bt152.1)) : Int).toNat⟩ : S74)]) (wrap64 (bt152.2.1 + bt152.1))) else (none)) else (none)) else (none)) else (none))))) else (some (([] : List (S74)), bt152.2.2, bt149.2.1)))) else (some (([] : List (S74)), bt149.2.2, x6)))) else (some (x5, 0, 0))
def groatref10_Get.f (k : Nat) (a0 : ByteArray) : Option ((List (S74)) × Int × Int) := groatref10_Get.l0 k a0 (([] : List (S74))) 0
theorem groatref10_Get.mono_l : ∀ k, (∀ y0 y1 y2, LeO (groatref10_Get.l0 k y0 y1 y2) (groatref10_Get.l0 (k + 1) y0 y1 y2))
 | 0 => fun _ _ _ r h => by simp [groatref10_Get.l0] at h
 | k + 1 => by
  have ih0 := groatref10_Get.mono_l k
  ·intro y0 y1 y2
   unfold groatref10_Get.l0
   repeat' first
   | (with_reducible exact ih0 _ _ _)
   | (with_reducible exact groatref08_Get.mono _ _ _)
   | (with_reducible exact groatref09_Get.mono _ _ _)
   | (with_reducible exact groatref10_has.mono _ _ _ _)
   | (with_reducible exact LeO.refl _)
   | (with_reducible exact LeO.none _)
   | (with_reducible refine LeO.ite ?_ ?_)
   | (with_reducible refine LeO.bind ?_ (fun _ => ?_))
   | exact ih0 _ _ _
   | exact groatref08_Get.mono _ _ _
   | exact groatref09_Get.mono _ _ _
   | exact groatref10_has.mono _ _ _ _
   | exact LeO.none _
   | refine LeO.ite ?_ ?_
   | refine LeO.bind ?_ (fun _ => ?_)
theorem groatref10_Get.mono : ∀ a0 k, LeO (groatref10_Get.f k a0) (groatref10_Get.f (k + 1) a0) := by
 intro a0 k
 have ih0 := groatref10_Get.mono_l k
 unfold groatref10_Get.f
 repeat' first
   | (with_reducible exact ih0 _ _ _)
   | (with_reducible exact groatref08_Get.mono _ _ _)
   | (with_reducible exact groatref09_Get.mono _ _ _)
   | (with_reducible exact groatref10_has.mono _ _ _ _)
   | (with_reducible exact LeO.refl _)
   | (with_reducible exact LeO.none _)
   | (with_reducible refine LeO.ite ?_ ?_)
   | (with_reducible refine LeO.bind ?_ (fun _ => ?_))
   | exact ih0 _ _ _
   | exact groatref08_Get.mono _ _ _
   | exact groatref09_Get.mono _ _ _
   | exact groatref10_has.mono _ _ _ _
   | exact LeO.none _
   | refine LeO.ite ?_ ?_
   | refine LeO.bind ?_ (fun _ => ?_)
set_option maxHeartbeats 8000000 in
set_option maxRecDepth 100000 in
theorem groatref10_Get.calls (k : Nat) (a0 : ByteArray) (r1 : List (S74)) (r2 : Int) (r3 : Int) (w : World) (h : groatref10_Get.f k a0 = some (r1, r2, r3)) :
  Calls Try.prog 30 #[.string a0] w fun e w' => ∃ v0_ : Value, e = .returned (.tuple #[v0_, .int .i64 r2, .int .i64 r3]) ∧ Kd.R k74 74 w' w.heap.size (fun _ => True) v0_ r1 ∧ Below w.heap.size w w' := by
 have hu74 := Try.underlying74
 have HB := Aside0.mk (Below.refl w.heap.size w)
 have H : (groatref10_Get.l0 k a0 (([] : List (S74))) 0) = some (r1, r2, r3) := h
 clear h
 obtain ⟨y146, hy146⟩ : ∃ y_ : List (S74), y_ = (([] : List (S74))) := ⟨_, rfl⟩
 replace H : (groatref10_Get.l0 k a0 y146 0) = some (r1, r2, r3) := by first | (rw [hy146]; with_reducible exact H) | (have H2_ := (Option.bind_some _ _).symm.trans H; rw [hy146]; with_reducible exact H2_) | (have H2_ := (Option.bind_some _ _).symm.trans H; with_reducible exact H2_) | with_reducible exact H | (rw [hy146]; exact H) | exact H
 have Ny146 := Aside0.mk hy146
 clear hy146
 have H' := Aside0.mk H
 clear H
 go_enter Try.func30, Try.ntmps30
 go_wp2_with (first | ((with_reducible refine gate_dst (N := 12) rfl ?_); refine Kd.R_lit k74 _ 74 ?hg (N := 12) ?hd (xs := ([] : List (S74))) (inner := []) (ok := fun _ => True) (okp := fun _ => True) ?hr ?hp (fun _ hk => hk) trivial (Below.refl _ _) (Nat.le_refl _) (by simp) ?_; (case hd => rfl); (case hg => rfl); (case hr => first | (go_simp; done) | (go_simp; rfl) | (have hu8_ := IntKind.wrap_u8; go_simp; done) | (have hu8_ := IntKind.wrap_u8; go_simp; rfl) | (go_simp; simp [IntKind.wrap_u8]; done)); (case hp => exact (Reps.none _ _)); intro v147 w2 ho3 hb hg_ hnew_; clear hg_ hnew_; (first | rw [← Ny146.out] at ho3 | (simp only [Int.reduceToNat] at ho3; rw [← Ny146.out] at ho3)); have n0_ := Aside0.mk (Kd.R_lower ho3 (below_size (by repeat (first | (with_reducible first | exact HB.out | apply below_alloc | apply pw_below_drewN | apply below_drew1) | exact HB.out)))); have n1_ := Aside0.mk (below_step (by repeat (first | (with_reducible first | exact HB.out | apply below_alloc | apply pw_below_drewN | apply below_drew1) | exact HB.out)) hb); clear HB; have HO148 := n0_; have HB := n1_; clear n0_ n1_; clear hb ho3))
 go_loopg [5, 6] k (fun kq v5 v6 w' => ∃ (x5_1 : List (S74)) (x6_1 : Int), v6 = .int .i64 x6_1 ∧ Aside0 (groatref10_Get.l0 kq a0 x5_1 x6_1 = some (r1, r2, r3)) ∧ Aside0 (kq ≤ k) ∧ Aside0 (Kd.R k74 74 w' w.heap.size (fun _ => True) v5 x5_1) ∧ Aside0 (Below w.heap.size w w'))
 case atStart => exact ⟨(y146), (0), (by first | rfl | (simp; done) | (simp [*]; done) | (simp [wrap64]; done)), H', ⟨Nat.le_refl _⟩, ⟨by (with_reducible repeat (first | apply Kd.R_alloc | apply Kd.R_drewN | apply Kd.R_drew)); exact HO148.out⟩, ⟨by repeat (first | (with_reducible first | exact HB.out | apply below_alloc | apply pw_below_drewN | apply below_drew1) | exact HB.out)⟩⟩
 case round =>
  clear H'
  try clear p2
  try clear c3
  obtain ⟨x5_1, x6_1, rfl, HA, HK1, HO_5, HB⟩ := hrel
  cases gk with
  | zero => exact absurd HA.out (by simp [groatref10_Get.l0])
  | succ k1 =>
   have H := HA.out
   clear HA
   simp only [groatref10_Get.l0] at H
   by_cases c4 : x6_1 < (a0.size : Int)
   ·rw [if_pos c4] at H
    have c4b0 : decide (x6_1 < (a0.size : Int)) = true := decide_eq_true c4
    clear c4
    replace H := Option.bind_eq_some_iff.mp H
    obtain ⟨⟨t149, t150, t151⟩, A50, H⟩ := H
    replace H : (if t151 = 0 then ((groatref09_Get.f k1 a0 t150).bind fun bt152 => (if bt152.2.2 = 0 then (if (wrap64 ((a0.size : Int) - bt152.2.1)) < bt152.1 then (some (([] : List (S74)), 2, (a0.size : Int))) else ((groatref10_has.f k1 x5_1 (x5_1.length : Int) t149).bind fun t155 => (if t155 = true then (some (([] : List (S74)), 10, x6_1)) else (if 0 ≤ bt152.2.1 then (if bt152.2.1 ≤ (wrap64 (bt152.2.1 + bt152.1)) then (if (wrap64 (bt152.2.1 + bt152.1)) ≤ (a0.size : Int) then (if x5_1.length < 5864062014805 then (groatref10_Get.l0 k1 a0 (x5_1 ++ [(⟨t149, a0.extract (bt152.2.1 : Int).toNat ((wrap64 (bt152.2.1 + bt152.1)) : Int).toNat⟩ : S74)]) (wrap64 (bt152.2.1 + bt152.1))) else (none)) else (none)) else (none)) else (none))))) else (some (([] : List (S74)), bt152.2.2, t150)))) else (some (([] : List (S74)), t151, x6_1))) = some (r1, r2, r3) := H
    have A5 := Aside0.mk A50
    clear A50
    by_cases c6 : t151 = 0
    ·rw [if_pos c6] at H
     have c6b0 : (t151 == 0) = true := beq_iff_eq.mpr c6
     have c6b1 : (t151 != 0) = false := bne_eq_false_iff_eq.mpr c6
     clear c6
     replace H := Option.bind_eq_some_iff.mp H
     obtain ⟨⟨t152, t153, t154⟩, A70, H⟩ := H
     replace H : (if t154 = 0 then (if (wrap64 ((a0.size : Int) - t153)) < t152 then (some (([] : List (S74)), 2, (a0.size : Int))) else ((groatref10_has.f k1 x5_1 (x5_1.length : Int) t149).bind fun t155 => (if t155 = true then (some (([] : List (S74)), 10, x6_1)) else (if 0 ≤ t153 then (if t153 ≤ (wrap64 (t153 + t152)) then (if (wrap64 (t153 + t152)) ≤ (a0.size : Int) then (if x5_1.length < 5864062014805 then (groatref10_Get.l0 k1 a0 (x5_1 ++ [(⟨t149, a0.extract (t153 : Int).toNat ((wrap64 (t153 + t152)) : Int).toNat⟩ : S74)]) (wrap64 (t153 + t152))) else (none)) else (none)) else (none)) else (none))))) else (some (([] : List (S74)), t154, t150))) = some (r1, r2, r3) := H
     have A7 := Aside0.mk A70
     clear A70
     by_cases c8 : t154 = 0
     ·rw [if_pos c8] at H
      have c8b0 : (t154 == 0) = true := beq_iff_eq.mpr c8
      have c8b1 : (t154 != 0) = false := bne_eq_false_iff_eq.mpr c8
      clear c8
      by_cases c9 : (wrap64 ((a0.size : Int) - t153)) < t152
      ·rw [if_pos c9] at H
       have c9b0 : decide ((wrap64 ((a0.size : Int) - t153)) < t152) = true := decide_eq_true c9
       clear c9
       simp only [Option.some.injEq, Prod.mk.injEq] at H
       obtain ⟨rfl, rfl, rfl⟩ := H
       go_wp2_with (first | ((with_reducible refine gate_callee (f := 53) rfl ?_); refine goesL_ (some 20) rfl rfl Try.func53 (by kernel_rfl) rfl #[.string a0, .int .i64 x6_1] rfl (by (try simp only [List.map_toArray, List.map_cons, List.map_nil]); first | done | rfl | (simp only [List.length_drop, List.length_take]; rfl)) ?_; (with_reducible refine (groatref08_Get.calls k1 a0 x6_1 t149 t150 t151 _ A5.out).mono ?_); rintro e w' ⟨rfl, ⟨nd, rfl⟩⟩; refine ⟨_, rfl, ?_⟩) | ((with_reducible refine gate_callee (f := 54) rfl ?_); refine goesL_ (some 31) rfl rfl Try.func54 (by kernel_rfl) rfl #[.string a0, .int .i64 t150] rfl (by (try simp only [List.map_toArray, List.map_cons, List.map_nil]); first | done | rfl | (simp only [List.length_drop, List.length_take]; rfl)) ?_; (with_reducible refine (groatref09_Get.calls k1 a0 t150 t152 t153 t154 _ A7.out).mono ?_); rintro e w' ⟨rfl, ⟨nd, rfl⟩⟩; refine ⟨_, rfl, ?_⟩))
       go_ret3
       exact ⟨_, by first | rfl | (simp [errW_none, errW_some] <;> rfl) | (simp [*, errW_none, errW_some] <;> rfl), by first | exact Kd.R_nil _ _ _ _ _ | exact Kd.N_nil _ _ _ _ _ | exact Kd.V_nil _ _ _ _ _ | exact Kd.Q_nil _ _ _ _ _ | exact Kd.S_nil _ _ _ _ _, by repeat (first | (with_reducible first | exact HB.out | apply below_alloc | apply pw_below_drewN | apply below_drew1) | exact HB.out)⟩
      ·rw [if_neg c9] at H
       have c9b0 : decide ((wrap64 ((a0.size : Int) - t153)) < t152) = false := decide_eq_false c9
       clear c9
       replace H := Option.bind_eq_some_iff.mp H
       obtain ⟨t155, A100, H⟩ := H
       replace H : (if t155 = true then (some (([] : List (S74)), 10, x6_1)) else (if 0 ≤ t153 then (if t153 ≤ (wrap64 (t153 + t152)) then (if (wrap64 (t153 + t152)) ≤ (a0.size : Int) then (if x5_1.length < 5864062014805 then (groatref10_Get.l0 k1 a0 (x5_1 ++ [(⟨t149, a0.extract (t153 : Int).toNat ((wrap64 (t153 + t152)) : Int).toNat⟩ : S74)]) (wrap64 (t153 + t152))) else (none)) else (none)) else (none)) else (none))) = some (r1, r2, r3) := H
       have A10 := Aside0.mk A100
       clear A100
       by_cases c11 : t155 = true
       ·subst c11
        have H1 : (some (([] : List (S74)), 10, x6_1)) = some (r1, r2, r3) := by rw [if_pos rfl] at H; exact H
        clear H
        have H := H1
        clear H1
        simp only [Option.some.injEq, Prod.mk.injEq] at H
        obtain ⟨rfl, rfl, rfl⟩ := H
        go_wp2_with (first | ((with_reducible refine gate_callee (f := 53) rfl ?_); refine goesL_ (some 20) rfl rfl Try.func53 (by kernel_rfl) rfl #[.string a0, .int .i64 x6_1] rfl (by (try simp only [List.map_toArray, List.map_cons, List.map_nil]); first | done | rfl | (simp only [List.length_drop, List.length_take]; rfl)) ?_; (with_reducible refine (groatref08_Get.calls k1 a0 x6_1 t149 t150 t151 _ A5.out).mono ?_); rintro e w' ⟨rfl, ⟨nd, rfl⟩⟩; refine ⟨_, rfl, ?_⟩) | ((with_reducible refine gate_callee (f := 54) rfl ?_); refine goesL_ (some 31) rfl rfl Try.func54 (by kernel_rfl) rfl #[.string a0, .int .i64 t150] rfl (by (try simp only [List.map_toArray, List.map_cons, List.map_nil]); first | done | rfl | (simp only [List.length_drop, List.length_take]; rfl)) ?_; (with_reducible refine (groatref09_Get.calls k1 a0 t150 t152 t153 t154 _ A7.out).mono ?_); rintro e w' ⟨rfl, ⟨nd, rfl⟩⟩; refine ⟨_, rfl, ?_⟩; obtain ⟨Ao12, co12, eo12⟩ := Kd.R_slice HO_5.out; subst eo12) | ((with_reducible refine gate_callee (f := 55) rfl ?_); refine goesL_ (some 51) rfl rfl Try.func55 (by kernel_rfl) rfl #[.slice Ao12 x5_1.length co12, .int .i64 (x5_1.length : Int), .int .i64 t149] rfl (by (try simp only [List.map_toArray, List.map_cons, List.map_nil]); first | done | rfl | (simp only [List.length_drop, List.length_take]; rfl)) ?_; (with_reducible refine (groatref10_has.calls k1 _ _ x5_1 (x5_1.length : Int) t149 true _ ?side1 ?side2 A10.out).mono ?_); (case side1 => repeat (first | exact (Kd.R_reads' HO_5.out).2.2 | (with_reducible refine Kd.C_alloc ?_ _) | (with_reducible refine Kd.C_drewN ?_ _) | (with_reducible refine Kd.C_drew ?_))); (case side2 => exact (Kd.R_reads' HO_5.out).2.1); rintro e w' ⟨rfl, ⟨nd, rfl⟩⟩; refine ⟨_, rfl, ?_⟩))
        go_ret3
        exact ⟨_, by first | rfl | (simp [errW_none, errW_some] <;> rfl) | (simp [*, errW_none, errW_some] <;> rfl), by first | exact Kd.R_nil _ _ _ _ _ | exact Kd.N_nil _ _ _ _ _ | exact Kd.V_nil _ _ _ _ _ | exact Kd.Q_nil _ _ _ _ _ | exact Kd.S_nil _ _ _ _ _, by repeat (first | (with_reducible first | exact HB.out | apply below_alloc | apply pw_below_drewN | apply below_drew1) | exact HB.out)⟩
       ·replace c11 := Bool.eq_false_iff.mpr c11
        subst c11
        have H1 : (if 0 ≤ t153 then (if t153 ≤ (wrap64 (t153 + t152)) then (if (wrap64 (t153 + t152)) ≤ (a0.size : Int) then (if x5_1.length < 5864062014805 then (groatref10_Get.l0 k1 a0 (x5_1 ++ [(⟨t149, a0.extract (t153 : Int).toNat ((wrap64 (t153 + t152)) : Int).toNat⟩ : S74)]) (wrap64 (t153 + t152))) else (none)) else (none)) else (none)) else (none)) = some (r1, r2, r3) := by rw [if_neg (show ¬ (false = true) by decide)] at H; exact H
        clear H
        have H := H1
        clear H1
        by_cases c13 : 0 ≤ t153
        ·rw [if_pos c13] at H
         have c13b0 := eq_true c13
         have c13b1 : decide (0 ≤ t153) = true := decide_eq_true c13
         clear c13
         by_cases c14 : t153 ≤ (wrap64 (t153 + t152))
         ·rw [if_pos c14] at H
          have c14b0 := eq_true c14
          have c14b1 : decide (t153 ≤ (wrap64 (t153 + t152))) = true := decide_eq_true c14
          by_cases c15 : (wrap64 (t153 + t152)) ≤ (a0.size : Int)
          ·rw [if_pos c15] at H
           have c15b0 := eq_true c15
           have c15b1 : decide ((wrap64 (t153 + t152)) ≤ (a0.size : Int)) = true := decide_eq_true c15
           by_cases c16 : x5_1.length < 5864062014805
           ·rw [if_pos c16] at H
            have LMc16 := Aside0.mk c16
            clear c16
            obtain ⟨y156, hy156⟩ : ∃ y_ : List (S74), y_ = (x5_1 ++ [(⟨t149, a0.extract (t153 : Int).toNat ((wrap64 (t153 + t152)) : Int).toNat⟩ : S74)]) := ⟨_, rfl⟩
            replace H : (groatref10_Get.l0 k1 a0 y156 (wrap64 (t153 + t152))) = some (r1, r2, r3) := by first | (rw [hy156]; with_reducible exact H) | (have H2_ := (Option.bind_some _ _).symm.trans H; rw [hy156]; with_reducible exact H2_) | (have H2_ := (Option.bind_some _ _).symm.trans H; with_reducible exact H2_) | with_reducible exact H | (rw [hy156]; exact H) | exact H
            have Ny156 := Aside0.mk hy156
            clear hy156
            have H' := Aside0.mk H
            clear H
            go_wp2_with (first | ((with_reducible refine gate_callee (f := 53) rfl ?_); refine goesL_ (some 20) rfl rfl Try.func53 (by kernel_rfl) rfl #[.string a0, .int .i64 x6_1] rfl (by (try simp only [List.map_toArray, List.map_cons, List.map_nil]); first | done | rfl | (simp only [List.length_drop, List.length_take]; rfl)) ?_; (with_reducible refine (groatref08_Get.calls k1 a0 x6_1 t149 t150 t151 _ A5.out).mono ?_); rintro e w' ⟨rfl, ⟨nd, rfl⟩⟩; refine ⟨_, rfl, ?_⟩) | ((with_reducible refine gate_callee (f := 54) rfl ?_); refine goesL_ (some 31) rfl rfl Try.func54 (by kernel_rfl) rfl #[.string a0, .int .i64 t150] rfl (by (try simp only [List.map_toArray, List.map_cons, List.map_nil]); first | done | rfl | (simp only [List.length_drop, List.length_take]; rfl)) ?_; (with_reducible refine (groatref09_Get.calls k1 a0 t150 t152 t153 t154 _ A7.out).mono ?_); rintro e w' ⟨rfl, ⟨nd, rfl⟩⟩; refine ⟨_, rfl, ?_⟩; obtain ⟨Ao17, co17, eo17⟩ := Kd.R_slice HO_5.out; subst eo17) | ((with_reducible refine gate_callee (f := 55) rfl ?_); refine goesL_ (some 51) rfl rfl Try.func55 (by kernel_rfl) rfl #[.slice Ao17 x5_1.length co17, .int .i64 (x5_1.length : Int), .int .i64 t149] rfl (by (try simp only [List.map_toArray, List.map_cons, List.map_nil]); first | done | rfl | (simp only [List.length_drop, List.length_take]; rfl)) ?_; (with_reducible refine (groatref10_has.calls k1 _ _ x5_1 (x5_1.length : Int) t149 false _ ?side1 ?side2 A10.out).mono ?_); (case side1 => repeat (first | exact (Kd.R_reads' HO_5.out).2.2 | (with_reducible refine Kd.C_alloc ?_ _) | (with_reducible refine Kd.C_drewN ?_ _) | (with_reducible refine Kd.C_drew ?_))); (case side2 => exact (Kd.R_reads' HO_5.out).2.1); rintro e w' ⟨rfl, ⟨nd, rfl⟩⟩; refine ⟨_, rfl, ?_⟩) | ((with_reducible refine gate_builtin (b := .append) (xs := #[.tmp 53, .tmp 62]) rfl ?_); at_builtin; refine Kd.R_append k74 (w0 := w) w.heap.size rfl (.tmp 53) (.tmp 62) 48 74 (.agg #[(.int .i64 0), (.string ⟨#[]⟩)]) 24 rfl Try.underlying48 info74 rfl (by decide) (by omega) (.slice Ao17 x5_1.length co17) x5_1 (⟨t149, a0.extract (t153 : Int).toNat ((wrap64 (t153 + t152)) : Int).toNat⟩ : S74) [.int .i64 t149, .string (a0.extract (t153 : Int).toNat ((wrap64 (t153 + t152)) : Int).toNat)] (fun _ => True) (fun _ => False) rfl rfl ?aP (fun _ hk => hk.elim) ?aF ?aO ?aB ?aS ?aL ?_; (case aP => exact k74_mkM _ _ _ (⟨t149, a0.extract (t153 : Int).toNat ((wrap64 (t153 + t152)) : Int).toNat⟩ : S74)); (case aB => exact (by repeat (first | (with_reducible first | exact HB.out | apply below_alloc | apply pw_below_drewN | apply below_drew1) | exact HB.out))); (case aF => exact (fun _ _ => trivial)); (case aO => exact (by (with_reducible repeat (first | apply Kd.R_alloc | apply Kd.R_drewN | apply Kd.R_drew)); exact HO_5.out)); (case aS => exact (below_size (by repeat (first | (with_reducible first | exact HB.out | apply below_alloc | apply pw_below_drewN | apply below_drew1) | exact HB.out)))); (case aL => have := LMc16.out; omega); intro v157 w18 ho hb hg hat; rw [← Ny156.out] at ho; have n0_ := Aside0.mk (hb); have n1_ := Aside0.mk (ho); clear HB; clear HO_5; have HB := n0_; have HO158 := n1_; clear n0_ n1_; clear ho hb hg hat))
            go_roundg k1
            case measure => have := HK1.out; omega
            case rel => exact ⟨(y156), (wrap64 (t153 + t152)), (by first | rfl | (simp; done) | (simp [*]; done) | (simp [wrap64]; done)), H', ⟨by have := HK1.out; omega⟩, ⟨by (with_reducible repeat (first | apply Kd.R_alloc | apply Kd.R_drewN | apply Kd.R_drew)); exact HO158.out⟩, ⟨by repeat (first | (with_reducible first | exact HB.out | apply below_alloc | apply pw_below_drewN | apply below_drew1) | exact HB.out)⟩⟩
           ·rw [if_neg c16] at H
            exact absurd H (by simp)
          ·rw [if_neg c15] at H
           exact absurd H (by simp)
         ·rw [if_neg c14] at H
          exact absurd H (by simp)
        ·rw [if_neg c13] at H
         exact absurd H (by simp)
     ·rw [if_neg c8] at H
      have c8b0 : (t154 == 0) = false := beq_eq_false_iff_ne.mpr c8
      have c8b1 : (t154 != 0) = true := bne_iff_ne.mpr c8
      simp only [Option.some.injEq, Prod.mk.injEq] at H
      obtain ⟨rfl, rfl, rfl⟩ := H
      go_wp2_with (first | ((with_reducible refine gate_callee (f := 53) rfl ?_); refine goesL_ (some 20) rfl rfl Try.func53 (by kernel_rfl) rfl #[.string a0, .int .i64 x6_1] rfl (by (try simp only [List.map_toArray, List.map_cons, List.map_nil]); first | done | rfl | (simp only [List.length_drop, List.length_take]; rfl)) ?_; (with_reducible refine (groatref08_Get.calls k1 a0 x6_1 t149 t150 t151 _ A5.out).mono ?_); rintro e w' ⟨rfl, ⟨nd, rfl⟩⟩; refine ⟨_, rfl, ?_⟩) | ((with_reducible refine gate_callee (f := 54) rfl ?_); refine goesL_ (some 31) rfl rfl Try.func54 (by kernel_rfl) rfl #[.string a0, .int .i64 t150] rfl (by (try simp only [List.map_toArray, List.map_cons, List.map_nil]); first | done | rfl | (simp only [List.length_drop, List.length_take]; rfl)) ?_; (with_reducible refine (groatref09_Get.calls k1 a0 t150 t152 t153 t154 _ A7.out).mono ?_); rintro e w' ⟨rfl, ⟨nd, rfl⟩⟩; refine ⟨_, rfl, ?_⟩))
      go_ret3
      exact ⟨_, by first | rfl | (simp [errW_none, errW_some] <;> rfl) | (simp [*, errW_none, errW_some] <;> rfl), by first | exact Kd.R_nil _ _ _ _ _ | exact Kd.N_nil _ _ _ _ _ | exact Kd.V_nil _ _ _ _ _ | exact Kd.Q_nil _ _ _ _ _ | exact Kd.S_nil _ _ _ _ _, by repeat (first | (with_reducible first | exact HB.out | apply below_alloc | apply pw_below_drewN | apply below_drew1) | exact HB.out)⟩
    ·rw [if_neg c6] at H
     have c6b0 : (t151 == 0) = false := beq_eq_false_iff_ne.mpr c6
     have c6b1 : (t151 != 0) = true := bne_iff_ne.mpr c6
     simp only [Option.some.injEq, Prod.mk.injEq] at H
     obtain ⟨rfl, rfl, rfl⟩ := H
     go_wp2_with (first | ((with_reducible refine gate_callee (f := 53) rfl ?_); refine goesL_ (some 20) rfl rfl Try.func53 (by kernel_rfl) rfl #[.string a0, .int .i64 x6_1] rfl (by (try simp only [List.map_toArray, List.map_cons, List.map_nil]); first | done | rfl | (simp only [List.length_drop, List.length_take]; rfl)) ?_; (with_reducible refine (groatref08_Get.calls k1 a0 x6_1 t149 t150 t151 _ A5.out).mono ?_); rintro e w' ⟨rfl, ⟨nd, rfl⟩⟩; refine ⟨_, rfl, ?_⟩))
     go_ret3
     exact ⟨_, by first | rfl | (simp [errW_none, errW_some] <;> rfl) | (simp [*, errW_none, errW_some] <;> rfl), by first | exact Kd.R_nil _ _ _ _ _ | exact Kd.N_nil _ _ _ _ _ | exact Kd.V_nil _ _ _ _ _ | exact Kd.Q_nil _ _ _ _ _ | exact Kd.S_nil _ _ _ _ _, by repeat (first | (with_reducible first | exact HB.out | apply below_alloc | apply pw_below_drewN | apply below_drew1) | exact HB.out)⟩
   ·rw [if_neg c4] at H
    have c4b0 : decide (x6_1 < (a0.size : Int)) = false := decide_eq_false c4
    clear c4
    simp only [Option.some.injEq, Prod.mk.injEq] at H
    obtain ⟨rfl, rfl, rfl⟩ := H
    go_wp2
    go_ret3
    exact ⟨_, by first | rfl | (simp [errW_none, errW_some] <;> rfl) | (simp [*, errW_none, errW_some] <;> rfl), by (with_reducible repeat (first | apply Kd.R_alloc | apply Kd.R_drewN | apply Kd.R_drew)); exact HO_5.out, by repeat (first | (with_reducible first | exact HB.out | apply below_alloc | apply pw_below_drewN | apply below_drew1) | exact HB.out)⟩

end Go.Proofs.Ytfaeodcapagjbaa.P
