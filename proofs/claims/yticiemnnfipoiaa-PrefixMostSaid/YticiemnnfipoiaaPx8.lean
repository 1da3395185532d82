-- written for this claim by wip/pp.py
import Derived.Test.YticiemnnfipoiaaPx0
import Derived.Test.YticiemnnfipoiaaPx4
import Derived.Test.YticiemnnfipoiaaPx5
import Derived.Test.YticiemnnfipoiaaPx6
import Derived.Test.YticiemnnfipoiaaPx7
namespace Go.Proofs.Yticiemnnfipoiaa.P
open Go.RowKit Go.Proofs.YticiemnnfipoiaaW.PrintWords Go.Proofs.YticiemnnfipoiaaW.PrintLast Go.Proofs.YticiemnnfipoiaaW.PrintMore
attribute [local go_sem] max2_int min2_int max_two min_two max_three min_three max_four min_four   -- for this text's walks alone
set_option linter.unusedVariables false
set_option linter.unusedSimpArgs false

/-! ### groatref07_Get: function 24 -/
mutual
def groatref07_Get.j0 : Nat → Int → Int → ByteArray → Int → Bool → Option (Int × Int × Int)
  | 0, _, _, _, _, _ => none
  | k + 1, x0, x1, x2, x3, x38 => if x38 = true then (some (0, 0, 1)) else (if x0 = 2 then (groatref07_Get.j1 k x0 x1 x2 x3 (wrap64 (x1 - 1))) else (groatref07_Get.j1 k x0 x1 x2 x3 x1))
def groatref07_Get.j1 : Nat → Int → Int → ByteArray → Int → Int → Option (Int × Int × Int)
  | 0, _, _, _, _, _ => none
  | k + 1, x0, x1, x2, x3, x11 => if (wrap64 ((x2.size : Int) - x3)) < x11 then (some (0, 0, 2)) else (if 0 ≤ x3 then (if x3 ≤ (wrap64 (x3 + x11)) then (if (wrap64 (x3 + x11)) ≤ (x2.size : Int) then (if x0 = 2 then ((groatref03_Get.f k (x2.extract (x3 : Int).toNat ((wrap64 (x3 + x11)) : Int).toNat) x1).bind fun bt247 => (if bt247.2.1 = 0 then ((groatref01_Get.f k bt247.1).bind fun bt250 => (if bt250.2 = true then (some (bt250.1, wrap64 (x3 + x11), 0)) else (some (0, 0, 3)))) else (some (0, 0, 3)))) else ((groatref01_Get.f k (x2.extract (x3 : Int).toNat ((wrap64 (x3 + x11)) : Int).toNat)).bind fun bt252 => (if bt252.2 = true then (some (bt252.1, wrap64 (x3 + x11), 0)) else (some (0, 0, 3))))) else (none)) else (none)) else (none))
end
def groatref07_Get.f (k : Nat) (a0 : Int) (a1 : Int) (a2 : ByteArray) (a3 : Int) : Option (Int × Int × Int) := if a0 = 1 then ((groatref07_Width.f a1).bind fun t245 => (if t245 = 0 then (groatref07_Get.j0 k a0 a1 a2 a3 true) else (if a3 < 0 then (groatref07_Get.j0 k a0 a1 a2 a3 true) else (groatref07_Get.j0 k a0 a1 a2 a3 (decide (a3 > (a2.size : Int))))))) else (if a0 = 2 then ((groatref07_Width.f a1).bind fun t246 => (if t246 = 0 then (groatref07_Get.j0 k a0 a1 a2 a3 true) else (if a3 < 0 then (groatref07_Get.j0 k a0 a1 a2 a3 true) else (groatref07_Get.j0 k a0 a1 a2 a3 (decide (a3 > (a2.size : Int))))))) else (groatref07_Get.j0 k a0 a1 a2 a3 true))
theorem groatref07_Get.mono_l : ∀ k, (∀ y0 y1 y2 y3 y4, LeO (groatref07_Get.j0 k y0 y1 y2 y3 y4) (groatref07_Get.j0 (k + 1) y0 y1 y2 y3 y4)) ∧ (∀ y0 y1 y2 y3 y4, LeO (groatref07_Get.j1 k y0 y1 y2 y3 y4) (groatref07_Get.j1 (k + 1) y0 y1 y2 y3 y4))
  | 0 => ⟨fun _ _ _ _ _ r h => by simp [groatref07_Get.j0] at h, fun _ _ _ _ _ r h => by simp [groatref07_Get.j1] at h⟩
  | k + 1 => by
    obtain ⟨ih0, ih1⟩ := groatref07_Get.mono_l k
    refine ⟨?_, ?_⟩
    · intro y0 y1 y2 y3 y4
      unfold groatref07_Get.j0
      repeat' first
      | (with_reducible exact ih0 _ _ _ _ _)
      | (with_reducible exact ih1 _ _ _ _ _)
      | (with_reducible exact groatref01_Get.mono _ _)
      | (with_reducible exact groatref03_Get.mono _ _ _)
      | (with_reducible exact LeO.refl _)
      | (with_reducible exact LeO.none _)
      | (with_reducible refine LeO.ite ?_ ?_)
      | (with_reducible refine LeO.bind ?_ (fun _ => ?_))
      | exact ih0 _ _ _ _ _
      | exact ih1 _ _ _ _ _
      | exact groatref01_Get.mono _ _
      | exact groatref03_Get.mono _ _ _
      | exact LeO.none _
      | refine LeO.ite ?_ ?_
      | refine LeO.bind ?_ (fun _ => ?_)
    · intro y0 y1 y2 y3 y4
      unfold groatref07_Get.j1
      repeat' first
      | (with_reducible exact ih0 _ _ _ _ _)
      | (with_reducible exact ih1 _ _ _ _ _)
      | (with_reducible exact groatref01_Get.mono _ _)
      | (with_reducible exact groatref03_Get.mono _ _ _)
      | (with_reducible exact LeO.refl _)
      | (with_reducible exact LeO.none _)
      | (with_reducible refine LeO.ite ?_ ?_)
      | (with_reducible refine LeO.bind ?_ (fun _ => ?_))
      | exact ih0 _ _ _ _ _
      | exact ih1 _ _ _ _ _
      | exact groatref01_Get.mono _ _
      | exact groatref03_Get.mono _ _ _
      | exact LeO.none _
      | refine LeO.ite ?_ ?_
      | refine LeO.bind ?_ (fun _ => ?_)
theorem groatref07_Get.mono : ∀ a0 a1 a2 a3 k, LeO (groatref07_Get.f k a0 a1 a2 a3) (groatref07_Get.f (k + 1) a0 a1 a2 a3) := by
  intro a0 a1 a2 a3 k
  obtain ⟨ih0, ih1⟩ := groatref07_Get.mono_l k
  unfold groatref07_Get.f
  repeat' first
      | (with_reducible exact ih0 _ _ _ _ _)
      | (with_reducible exact ih1 _ _ _ _ _)
      | (with_reducible exact groatref01_Get.mono _ _)
      | (with_reducible exact groatref03_Get.mono _ _ _)
      | (with_reducible exact LeO.refl _)
      | (with_reducible exact LeO.none _)
      | (with_reducible refine LeO.ite ?_ ?_)
      | (with_reducible refine LeO.bind ?_ (fun _ => ?_))
      | exact ih0 _ _ _ _ _
      | exact ih1 _ _ _ _ _
      | exact groatref01_Get.mono _ _
      | exact groatref03_Get.mono _ _ _
      | exact LeO.none _
      | refine LeO.ite ?_ ?_
      | refine LeO.bind ?_ (fun _ => ?_)
set_option maxHeartbeats 8000000 in
set_option maxRecDepth 100000 in
theorem groatref07_Get.calls (k : Nat) (a0 : Int) (a1 : Int) (a2 : ByteArray) (a3 : Int) (r1 : Int) (r2 : Int) (r3 : Int) (w : World) (h : groatref07_Get.f k a0 a1 a2 a3 = some (r1, r2, r3)) :
    Calls Try.prog 24 #[.int .i64 a0, .int .i64 a1, .string a2, .int .i64 a3] w fun e w' => e = .returned (.tuple #[.int .i64 r1, .int .i64 r2, .int .i64 r3]) ∧ Below w.heap.size w w' := by
  have HB := Aside0.mk (Below.refl w.heap.size w)
  have H : (if a0 = 1 then ((groatref07_Width.f a1).bind fun t245 => (if t245 = 0 then (groatref07_Get.j0 k a0 a1 a2 a3 true) else (if a3 < 0 then (groatref07_Get.j0 k a0 a1 a2 a3 true) else (groatref07_Get.j0 k a0 a1 a2 a3 (decide (a3 > (a2.size : Int))))))) else (if a0 = 2 then ((groatref07_Width.f a1).bind fun t246 => (if t246 = 0 then (groatref07_Get.j0 k a0 a1 a2 a3 true) else (if a3 < 0 then (groatref07_Get.j0 k a0 a1 a2 a3 true) else (groatref07_Get.j0 k a0 a1 a2 a3 (decide (a3 > (a2.size : Int))))))) else (groatref07_Get.j0 k a0 a1 a2 a3 true))) = some (r1, r2, r3) := h
  clear h
  have HC5 := Aside0.mk H
  clear H
  go_enter Try.func24, Try.ntmps24
  go_upto_region 1 with (fail)
  go_cut [38] (fun v38 wc => ∃ (kq : Nat) (x38_4 : Bool), v38 = .bool x38_4 ∧ Aside0 (groatref07_Get.j0 kq a0 a1 a2 a3 x38_4 = some (r1, r2, r3)) ∧ Aside0 (kq ≤ k) ∧ Aside0 (Below w.heap.size w wc))
  case first =>
    have H := HC5.out
    clear HC5
    by_cases c6 : a0 = 1
    · rw [if_pos c6] at H
      have c6b0 : (a0 == 1) = true := beq_iff_eq.mpr c6
      have c6b1 : (a0 != 1) = false := bne_eq_false_iff_eq.mpr c6
      clear c6
      (first | rw [c6b0] | (simp only [i64_w, i32_w]; rw [c6b0]) | skip)
      replace H := Option.bind_eq_some_iff.mp H
      obtain ⟨t245, A70, H⟩ := H
      replace H : (if t245 = 0 then (groatref07_Get.j0 k a0 a1 a2 a3 true) else (if a3 < 0 then (groatref07_Get.j0 k a0 a1 a2 a3 true) else (groatref07_Get.j0 k a0 a1 a2 a3 (decide (a3 > (a2.size : Int)))))) = some (r1, r2, r3) := H
      have A7 := Aside0.mk A70
      clear A70
      by_cases c8 : t245 = 0
      · rw [if_pos c8] at H
        have c8b0 : (t245 == 0) = true := beq_iff_eq.mpr c8
        have c8b1 : (t245 != 0) = false := bne_eq_false_iff_eq.mpr c8
        clear c8
        have H' := Aside0.mk H
        clear H
        go_wp2_with (first | (go_at_call 31; (with_reducible refine (groatref07_Width.calls a1 t245 _ A7.out).mono ?_); rintro e w' ⟨rfl, ⟨nd, rfl⟩⟩))
        go_meet
        case rel => exact ⟨_, (true), (by first | rfl | (simp; done) | (simp [*]; done)), H', ⟨by first | omega | exact Nat.le_refl _⟩, ⟨by repeat (first | (with_reducible first | exact HB.out | apply below_alloc | apply pw_below_drewN | apply below_drew1) | exact HB.out)⟩⟩
      · rw [if_neg c8] at H
        have c8b0 : (t245 == 0) = false := beq_eq_false_iff_ne.mpr c8
        have c8b1 : (t245 != 0) = true := bne_iff_ne.mpr c8
        by_cases c9 : a3 < 0
        · rw [if_pos c9] at H
          have c9b0 : decide (a3 < 0) = true := decide_eq_true c9
          clear c9
          have H' := Aside0.mk H
          clear H
          go_wp2_with (first | (go_at_call 31; (with_reducible refine (groatref07_Width.calls a1 t245 _ A7.out).mono ?_); rintro e w' ⟨rfl, ⟨nd, rfl⟩⟩))
          go_meet
          case rel => exact ⟨_, (true), (by first | rfl | (simp; done) | (simp [*]; done)), H', ⟨by first | omega | exact Nat.le_refl _⟩, ⟨by repeat (first | (with_reducible first | exact HB.out | apply below_alloc | apply pw_below_drewN | apply below_drew1) | exact HB.out)⟩⟩
        · rw [if_neg c9] at H
          have c9b0 : decide (a3 < 0) = false := decide_eq_false c9
          clear c9
          have H' := Aside0.mk H
          clear H
          go_wp2_with (first | (go_at_call 31; (with_reducible refine (groatref07_Width.calls a1 t245 _ A7.out).mono ?_); rintro e w' ⟨rfl, ⟨nd, rfl⟩⟩))
          go_meet
          case rel => exact ⟨_, (decide (a3 > (a2.size : Int))), (by first | rfl | (simp; done) | (simp [*]; done)), H', ⟨by first | omega | exact Nat.le_refl _⟩, ⟨by repeat (first | (with_reducible first | exact HB.out | apply below_alloc | apply pw_below_drewN | apply below_drew1) | exact HB.out)⟩⟩
    · rw [if_neg c6] at H
      have c6b0 : (a0 == 1) = false := beq_eq_false_iff_ne.mpr c6
      have c6b1 : (a0 != 1) = true := bne_iff_ne.mpr c6
      (first | rw [c6b0] | (simp only [i64_w, i32_w]; rw [c6b0]) | skip)
      by_cases c10 : a0 = 2
      · rw [if_pos c10] at H
        have c10b0 : (a0 == 2) = true := beq_iff_eq.mpr c10
        have c10b1 : (a0 != 2) = false := bne_eq_false_iff_eq.mpr c10
        clear c10
        replace H := Option.bind_eq_some_iff.mp H
        obtain ⟨t246, A110, H⟩ := H
        replace H : (if t246 = 0 then (groatref07_Get.j0 k a0 a1 a2 a3 true) else (if a3 < 0 then (groatref07_Get.j0 k a0 a1 a2 a3 true) else (groatref07_Get.j0 k a0 a1 a2 a3 (decide (a3 > (a2.size : Int)))))) = some (r1, r2, r3) := H
        have A11 := Aside0.mk A110
        clear A110
        by_cases c12 : t246 = 0
        · rw [if_pos c12] at H
          have c12b0 : (t246 == 0) = true := beq_iff_eq.mpr c12
          have c12b1 : (t246 != 0) = false := bne_eq_false_iff_eq.mpr c12
          clear c12
          have H' := Aside0.mk H
          clear H
          go_wp2_with (first | (go_at_call 31; (with_reducible refine (groatref07_Width.calls a1 t246 _ A11.out).mono ?_); rintro e w' ⟨rfl, ⟨nd, rfl⟩⟩))
          go_meet
          case rel => exact ⟨_, (true), (by first | rfl | (simp; done) | (simp [*]; done)), H', ⟨by first | omega | exact Nat.le_refl _⟩, ⟨by repeat (first | (with_reducible first | exact HB.out | apply below_alloc | apply pw_below_drewN | apply below_drew1) | exact HB.out)⟩⟩
        · rw [if_neg c12] at H
          have c12b0 : (t246 == 0) = false := beq_eq_false_iff_ne.mpr c12
          have c12b1 : (t246 != 0) = true := bne_iff_ne.mpr c12
          by_cases c13 : a3 < 0
          · rw [if_pos c13] at H
            have c13b0 : decide (a3 < 0) = true := decide_eq_true c13
            clear c13
            have H' := Aside0.mk H
            clear H
            go_wp2_with (first | (go_at_call 31; (with_reducible refine (groatref07_Width.calls a1 t246 _ A11.out).mono ?_); rintro e w' ⟨rfl, ⟨nd, rfl⟩⟩))
            go_meet
            case rel => exact ⟨_, (true), (by first | rfl | (simp; done) | (simp [*]; done)), H', ⟨by first | omega | exact Nat.le_refl _⟩, ⟨by repeat (first | (with_reducible first | exact HB.out | apply below_alloc | apply pw_below_drewN | apply below_drew1) | exact HB.out)⟩⟩
          · rw [if_neg c13] at H
            have c13b0 : decide (a3 < 0) = false := decide_eq_false c13
            clear c13
            have H' := Aside0.mk H
            clear H
            go_wp2_with (first | (go_at_call 31; (with_reducible refine (groatref07_Width.calls a1 t246 _ A11.out).mono ?_); rintro e w' ⟨rfl, ⟨nd, rfl⟩⟩))
            go_meet
            case rel => exact ⟨_, (decide (a3 > (a2.size : Int))), (by first | rfl | (simp; done) | (simp [*]; done)), H', ⟨by first | omega | exact Nat.le_refl _⟩, ⟨by repeat (first | (with_reducible first | exact HB.out | apply below_alloc | apply pw_below_drewN | apply below_drew1) | exact HB.out)⟩⟩
      · rw [if_neg c10] at H
        have c10b0 : (a0 == 2) = false := beq_eq_false_iff_ne.mpr c10
        have c10b1 : (a0 != 2) = true := bne_iff_ne.mpr c10
        have H' := Aside0.mk H
        clear H
        go_wp2
        go_meet
        case rel => exact ⟨_, (true), (by first | rfl | (simp; done) | (simp [*]; done)), H', ⟨by first | omega | exact Nat.le_refl _⟩, ⟨by repeat (first | (with_reducible first | exact HB.out | apply below_alloc | apply pw_below_drewN | apply below_drew1) | exact HB.out)⟩⟩
  case rest =>
    clear HC5
    try clear c1
    try clear c2
    try clear p2
    try clear c6
    try clear c6b0
    try clear c6b1
    try clear c8
    try clear c8b0
    try clear c8b1
    try clear c9
    try clear c9b0
    try clear c10
    try clear c10b0
    try clear c10b1
    try clear c12
    try clear c12b0
    try clear c12b1
    try clear c13
    try clear c13b0
    obtain ⟨kq, x38_4, rfl, HA, HJ4, HB⟩ := hcut
    cases kq with
    | zero => exact absurd HA.out (by simp [groatref07_Get.j0])
    | succ kj4 =>
      have H := HA.out
      clear HA
      simp only [groatref07_Get.j0] at H
      by_cases c14 : x38_4 = true
      · subst c14
        have H1 : (some (0, 0, 1)) = some (r1, r2, r3) := by rw [if_pos rfl] at H; exact H
        clear H
        have H := H1
        clear H1
        simp only [Option.some.injEq, Prod.mk.injEq] at H
        obtain ⟨rfl, rfl, rfl⟩ := H
        go_wp2
        go_ret3
        exact ⟨by first | rfl | (simp [errW_none, errW_some] <;> rfl) | (simp [*, errW_none, errW_some] <;> rfl), by repeat (first | (with_reducible first | exact HB.out | apply below_alloc | apply pw_below_drewN | apply below_drew1) | exact HB.out)⟩
      · replace c14 := Bool.eq_false_iff.mpr c14
        subst c14
        have H1 : (if a0 = 2 then (groatref07_Get.j1 kj4 a0 a1 a2 a3 (wrap64 (a1 - 1))) else (groatref07_Get.j1 kj4 a0 a1 a2 a3 a1)) = some (r1, r2, r3) := by rw [if_neg (show ¬ (false = true) by decide)] at H; exact H
        clear H
        have H := H1
        clear H1
        have HC15 := Aside0.mk H
        clear H
        go_upto_if 41 with (fail)
        go_cut [11] (fun v11 wc => ∃ (kq : Nat) (x11_14 : Int), v11 = .int .i64 x11_14 ∧ Aside0 (groatref07_Get.j1 kq a0 a1 a2 a3 x11_14 = some (r1, r2, r3)) ∧ Aside0 (kq ≤ kj4) ∧ Aside0 (Below w.heap.size w wc))
        case first =>
          have H := HC15.out
          clear HC15
          by_cases c16 : a0 = 2
          · rw [if_pos c16] at H
            have c16b0 : (a0 == 2) = true := beq_iff_eq.mpr c16
            have c16b1 : (a0 != 2) = false := bne_eq_false_iff_eq.mpr c16
            clear c16
            (first | rw [c16b0] | (simp only [i64_w, i32_w]; rw [c16b0]) | skip)
            have H' := Aside0.mk H
            clear H
            go_wp2
            go_meet
            case rel => exact ⟨_, (wrap64 (a1 - 1)), (by first | rfl | (simp; done) | (simp [*]; done)), H', ⟨by have := HJ4.out; first | omega | exact Nat.le_refl _⟩, ⟨by repeat (first | (with_reducible first | exact HB.out | apply below_alloc | apply pw_below_drewN | apply below_drew1) | exact HB.out)⟩⟩
          · rw [if_neg c16] at H
            have c16b0 : (a0 == 2) = false := beq_eq_false_iff_ne.mpr c16
            have c16b1 : (a0 != 2) = true := bne_iff_ne.mpr c16
            (first | rw [c16b0] | (simp only [i64_w, i32_w]; rw [c16b0]) | skip)
            have H' := Aside0.mk H
            clear H
            go_wp2
            go_meet
            case rel => exact ⟨_, (a1), (by first | rfl | (simp; done) | (simp [*]; done)), H', ⟨by have := HJ4.out; first | omega | exact Nat.le_refl _⟩, ⟨by repeat (first | (with_reducible first | exact HB.out | apply below_alloc | apply pw_below_drewN | apply below_drew1) | exact HB.out)⟩⟩
        case rest =>
          clear HC15
          try clear c1
          try clear c2
          try clear p2
          try clear c6
          try clear c6b0
          try clear c6b1
          try clear p6
          try clear c8
          try clear c8b0
          try clear c8b1
          try clear c9
          try clear c9b0
          try clear c10
          try clear c10b0
          try clear c10b1
          try clear c12
          try clear c12b0
          try clear c12b1
          try clear c13
          try clear c13b0
          try clear c14
          try clear c16
          try clear c16b0
          try clear c16b1
          try clear p2
          obtain ⟨kq, x11_14, rfl, HA, HJ14, HB⟩ := hcut
          cases kq with
          | zero => exact absurd HA.out (by simp [groatref07_Get.j1])
          | succ kj14 =>
            have H := HA.out
            clear HA
            simp only [groatref07_Get.j1] at H
            by_cases c17 : (wrap64 ((a2.size : Int) - a3)) < x11_14
            · rw [if_pos c17] at H
              have c17b0 : decide ((wrap64 ((a2.size : Int) - a3)) < x11_14) = true := decide_eq_true c17
              clear c17
              simp only [Option.some.injEq, Prod.mk.injEq] at H
              obtain ⟨rfl, rfl, rfl⟩ := H
              go_wp2
              go_ret3
              exact ⟨by first | rfl | (simp [errW_none, errW_some] <;> rfl) | (simp [*, errW_none, errW_some] <;> rfl), by repeat (first | (with_reducible first | exact HB.out | apply below_alloc | apply pw_below_drewN | apply below_drew1) | exact HB.out)⟩
            · rw [if_neg c17] at H
              have c17b0 : decide ((wrap64 ((a2.size : Int) - a3)) < x11_14) = false := decide_eq_false c17
              clear c17
              by_cases c18 : 0 ≤ a3
              · rw [if_pos c18] at H
                have c18b0 := eq_true c18
                have c18b1 : decide (0 ≤ a3) = true := decide_eq_true c18
                clear c18
                by_cases c19 : a3 ≤ (wrap64 (a3 + x11_14))
                · rw [if_pos c19] at H
                  have c19b0 := eq_true c19
                  have c19b1 : decide (a3 ≤ (wrap64 (a3 + x11_14))) = true := decide_eq_true c19
                  by_cases c20 : (wrap64 (a3 + x11_14)) ≤ (a2.size : Int)
                  · rw [if_pos c20] at H
                    have c20b0 := eq_true c20
                    have c20b1 : decide ((wrap64 (a3 + x11_14)) ≤ (a2.size : Int)) = true := decide_eq_true c20
                    by_cases c21 : a0 = 2
                    · rw [if_pos c21] at H
                      have c21b0 : (a0 == 2) = true := beq_iff_eq.mpr c21
                      have c21b1 : (a0 != 2) = false := bne_eq_false_iff_eq.mpr c21
                      clear c21
                      replace H := Option.bind_eq_some_iff.mp H
                      obtain ⟨⟨t247, t248, t249⟩, A220, H⟩ := H
                      replace H : (if t248 = 0 then ((groatref01_Get.f kj14 t247).bind fun bt250 => (if bt250.2 = true then (some (bt250.1, wrap64 (a3 + x11_14), 0)) else (some (0, 0, 3)))) else (some (0, 0, 3))) = some (r1, r2, r3) := H
                      have A22 := Aside0.mk A220
                      clear A220
                      by_cases c23 : t248 = 0
                      · rw [if_pos c23] at H
                        have c23b0 : (t248 == 0) = true := beq_iff_eq.mpr c23
                        have c23b1 : (t248 != 0) = false := bne_eq_false_iff_eq.mpr c23
                        clear c23
                        replace H := Option.bind_eq_some_iff.mp H
                        obtain ⟨⟨t250, t251⟩, A240, H⟩ := H
                        replace H : (if t251 = true then (some (t250, wrap64 (a3 + x11_14), 0)) else (some (0, 0, 3))) = some (r1, r2, r3) := H
                        have A24 := Aside0.mk A240
                        clear A240
                        by_cases c25 : t251 = true
                        · subst c25
                          have H1 : (some (t250, wrap64 (a3 + x11_14), 0)) = some (r1, r2, r3) := by rw [if_pos rfl] at H; exact H
                          clear H
                          have H := H1
                          clear H1
                          simp only [Option.some.injEq, Prod.mk.injEq] at H
                          obtain ⟨rfl, rfl, rfl⟩ := H
                          go_wp2_with (first | ((with_reducible refine gate_callee (f := 17) rfl ?_); refine goesL_ (some 61) rfl rfl Try.func17 (by kernel_rfl) rfl #[.string (a2.extract (a3 : Int).toNat ((wrap64 (a3 + x11_14)) : Int).toNat), .int .i64 a1] rfl (by (try simp only [List.map_toArray, List.map_cons, List.map_nil]); first | done | rfl | (simp only [List.length_drop, List.length_take]; rfl)) ?_; (with_reducible refine (groatref03_Get.calls kj14 (a2.extract (a3 : Int).toNat ((wrap64 (a3 + x11_14)) : Int).toNat) a1 t247 t248 t249 _ A22.out).mono ?_); rintro e w26 ⟨rfl, hb⟩; refine ⟨_, rfl, ?_⟩; have n0_ := Aside0.mk (below_step (by repeat (first | (with_reducible first | exact HB.out | apply below_alloc | apply pw_below_drewN | apply below_drew1) | exact HB.out)) hb); clear HB; have HB := n0_; clear n0_; (try clear hb); (try clear hb2); (try clear hk); (try clear hi)) | ((with_reducible refine gate_callee (f := 34) rfl ?_); refine goesL_ (some 70) rfl rfl Try.func34 (by kernel_rfl) rfl #[.string t247] rfl (by (try simp only [List.map_toArray, List.map_cons, List.map_nil]); first | done | rfl | (simp only [List.length_drop, List.length_take]; rfl)) ?_; (with_reducible refine (groatref01_Get.calls kj14 t247 t250 true _ A24.out).mono ?_); rintro e w' ⟨rfl, ⟨nd, rfl⟩⟩; refine ⟨_, rfl, ?_⟩))
                          go_ret3
                          exact ⟨by first | rfl | (simp [errW_none, errW_some] <;> rfl) | (simp [*, errW_none, errW_some] <;> rfl), by repeat (first | (with_reducible first | exact HB.out | apply below_alloc | apply pw_below_drewN | apply below_drew1) | exact HB.out)⟩
                        · replace c25 := Bool.eq_false_iff.mpr c25
                          subst c25
                          have H1 : (some (0, 0, 3)) = some (r1, r2, r3) := by rw [if_neg (show ¬ (false = true) by decide)] at H; exact H
                          clear H
                          have H := H1
                          clear H1
                          simp only [Option.some.injEq, Prod.mk.injEq] at H
                          obtain ⟨rfl, rfl, rfl⟩ := H
                          go_wp2_with (first | ((with_reducible refine gate_callee (f := 17) rfl ?_); refine goesL_ (some 61) rfl rfl Try.func17 (by kernel_rfl) rfl #[.string (a2.extract (a3 : Int).toNat ((wrap64 (a3 + x11_14)) : Int).toNat), .int .i64 a1] rfl (by (try simp only [List.map_toArray, List.map_cons, List.map_nil]); first | done | rfl | (simp only [List.length_drop, List.length_take]; rfl)) ?_; (with_reducible refine (groatref03_Get.calls kj14 (a2.extract (a3 : Int).toNat ((wrap64 (a3 + x11_14)) : Int).toNat) a1 t247 t248 t249 _ A22.out).mono ?_); rintro e w27 ⟨rfl, hb⟩; refine ⟨_, rfl, ?_⟩; have n0_ := Aside0.mk (below_step (by repeat (first | (with_reducible first | exact HB.out | apply below_alloc | apply pw_below_drewN | apply below_drew1) | exact HB.out)) hb); clear HB; have HB := n0_; clear n0_; (try clear hb); (try clear hb2); (try clear hk); (try clear hi)) | ((with_reducible refine gate_callee (f := 34) rfl ?_); refine goesL_ (some 70) rfl rfl Try.func34 (by kernel_rfl) rfl #[.string t247] rfl (by (try simp only [List.map_toArray, List.map_cons, List.map_nil]); first | done | rfl | (simp only [List.length_drop, List.length_take]; rfl)) ?_; (with_reducible refine (groatref01_Get.calls kj14 t247 t250 false _ A24.out).mono ?_); rintro e w' ⟨rfl, ⟨nd, rfl⟩⟩; refine ⟨_, rfl, ?_⟩))
                          go_ret3
                          exact ⟨by first | rfl | (simp [errW_none, errW_some] <;> rfl) | (simp [*, errW_none, errW_some] <;> rfl), by repeat (first | (with_reducible first | exact HB.out | apply below_alloc | apply pw_below_drewN | apply below_drew1) | exact HB.out)⟩
                      · rw [if_neg c23] at H
                        have c23b0 : (t248 == 0) = false := beq_eq_false_iff_ne.mpr c23
                        have c23b1 : (t248 != 0) = true := bne_iff_ne.mpr c23
                        simp only [Option.some.injEq, Prod.mk.injEq] at H
                        obtain ⟨rfl, rfl, rfl⟩ := H
                        go_wp2_with (first | ((with_reducible refine gate_callee (f := 17) rfl ?_); refine goesL_ (some 61) rfl rfl Try.func17 (by kernel_rfl) rfl #[.string (a2.extract (a3 : Int).toNat ((wrap64 (a3 + x11_14)) : Int).toNat), .int .i64 a1] rfl (by (try simp only [List.map_toArray, List.map_cons, List.map_nil]); first | done | rfl | (simp only [List.length_drop, List.length_take]; rfl)) ?_; (with_reducible refine (groatref03_Get.calls kj14 (a2.extract (a3 : Int).toNat ((wrap64 (a3 + x11_14)) : Int).toNat) a1 t247 t248 t249 _ A22.out).mono ?_); rintro e w28 ⟨rfl, hb⟩; refine ⟨_, rfl, ?_⟩; have n0_ := Aside0.mk (below_step (by repeat (first | (with_reducible first | exact HB.out | apply below_alloc | apply pw_below_drewN | apply below_drew1) | exact HB.out)) hb); clear HB; have HB := n0_; clear n0_; (try clear hb); (try clear hb2); (try clear hk); (try clear hi)))
                        go_ret3
                        exact ⟨by first | rfl | (simp [errW_none, errW_some] <;> rfl) | (simp [*, errW_none, errW_some] <;> rfl), by repeat (first | (with_reducible first | exact HB.out | apply below_alloc | apply pw_below_drewN | apply below_drew1) | exact HB.out)⟩
                    · rw [if_neg c21] at H
                      have c21b0 : (a0 == 2) = false := beq_eq_false_iff_ne.mpr c21
                      have c21b1 : (a0 != 2) = true := bne_iff_ne.mpr c21
                      replace H := Option.bind_eq_some_iff.mp H
                      obtain ⟨⟨t252, t253⟩, A290, H⟩ := H
                      replace H : (if t253 = true then (some (t252, wrap64 (a3 + x11_14), 0)) else (some (0, 0, 3))) = some (r1, r2, r3) := H
                      have A29 := Aside0.mk A290
                      clear A290
                      by_cases c30 : t253 = true
                      · subst c30
                        have H1 : (some (t252, wrap64 (a3 + x11_14), 0)) = some (r1, r2, r3) := by rw [if_pos rfl] at H; exact H
                        clear H
                        have H := H1
                        clear H1
                        simp only [Option.some.injEq, Prod.mk.injEq] at H
                        obtain ⟨rfl, rfl, rfl⟩ := H
                        go_wp2_with (first | ((with_reducible refine gate_callee (f := 34) rfl ?_); refine goesL_ (some 70) rfl rfl Try.func34 (by kernel_rfl) rfl #[.string (a2.extract (a3 : Int).toNat ((wrap64 (a3 + x11_14)) : Int).toNat)] rfl (by (try simp only [List.map_toArray, List.map_cons, List.map_nil]); first | done | rfl | (simp only [List.length_drop, List.length_take]; rfl)) ?_; (with_reducible refine (groatref01_Get.calls kj14 (a2.extract (a3 : Int).toNat ((wrap64 (a3 + x11_14)) : Int).toNat) t252 true _ A29.out).mono ?_); rintro e w' ⟨rfl, ⟨nd, rfl⟩⟩; refine ⟨_, rfl, ?_⟩))
                        go_ret3
                        exact ⟨by first | rfl | (simp [errW_none, errW_some] <;> rfl) | (simp [*, errW_none, errW_some] <;> rfl), by repeat (first | (with_reducible first | exact HB.out | apply below_alloc | apply pw_below_drewN | apply below_drew1) | exact HB.out)⟩
                      · replace c30 := Bool.eq_false_iff.mpr c30
                        subst c30
                        have H1 : (some (0, 0, 3)) = some (r1, r2, r3) := by rw [if_neg (show ¬ (false = true) by decide)] at H; exact H
                        clear H
                        have H := H1
                        clear H1
                        simp only [Option.some.injEq, Prod.mk.injEq] at H
                        obtain ⟨rfl, rfl, rfl⟩ := H
                        go_wp2_with (first | ((with_reducible refine gate_callee (f := 34) rfl ?_); refine goesL_ (some 70) rfl rfl Try.func34 (by kernel_rfl) rfl #[.string (a2.extract (a3 : Int).toNat ((wrap64 (a3 + x11_14)) : Int).toNat)] rfl (by (try simp only [List.map_toArray, List.map_cons, List.map_nil]); first | done | rfl | (simp only [List.length_drop, List.length_take]; rfl)) ?_; (with_reducible refine (groatref01_Get.calls kj14 (a2.extract (a3 : Int).toNat ((wrap64 (a3 + x11_14)) : Int).toNat) t252 false _ A29.out).mono ?_); rintro e w' ⟨rfl, ⟨nd, rfl⟩⟩; refine ⟨_, rfl, ?_⟩))
                        go_ret3
                        exact ⟨by first | rfl | (simp [errW_none, errW_some] <;> rfl) | (simp [*, errW_none, errW_some] <;> rfl), by repeat (first | (with_reducible first | exact HB.out | apply below_alloc | apply pw_below_drewN | apply below_drew1) | exact HB.out)⟩
                  · rw [if_neg c20] at H
                    exact absurd H (by simp)
                · rw [if_neg c19] at H
                  exact absurd H (by simp)
              · rw [if_neg c18] at H
                exact absurd H (by simp)

-- NOT PRINTED: function 9 (groatlaw07_PrefixGets)

-- NOT PRINTED: function 10 (groatlaw07_PrefixBack)

-- NOT PRINTED: function 11 (groatlaw07_PrefixOne)

/-! ### groatlaw07_PrefixMost: function 12 -/
def groatlaw07_PrefixMost.j0 : Nat → Int → Int → Int → Int → Bool → Option (Bool)
  | 0, _, _, _, _, _ => none
  | k + 1, x1, x5, x7, x9, x37 => if x37 = true then ((groatlaw07_awake.f k).bind fun t260 => (if t260 = true then (if x7 = 1 then (some (x9 == 1)) else (some false)) else (some false))) else (if x1 = 2 then (if x7 = 0 then (some (x9 == 5)) else (some false)) else (if x1 = 3 then (if x7 = 0 then (some (x9 == 5)) else (some false)) else (if x5 = 0 then (if x7 = 1 then (some (x9 == 1)) else (some false)) else (some false))))
def groatlaw07_PrefixMost.f (k : Nat) (a0 : Int) (a1 : Int) : Option (Bool) := (prefix_Most.f k a1).bind fun t254 => ((prefix_Put.f k a0 a1 t254).bind fun bt255 => ((prefix_Put.f k a0 a1 (wrap64 ((mn t254 1073741824) + 1))).bind fun bt257 => ((groatlaw07_awake.f k).bind fun t259 => (if t259 = true then (if a0 = 1 then (groatlaw07_PrefixMost.j0 k a1 t254 bt255.2 bt257.2 false) else (groatlaw07_PrefixMost.j0 k a1 t254 bt255.2 bt257.2 (a0 != 2))) else (groatlaw07_PrefixMost.j0 k a1 t254 bt255.2 bt257.2 true)))))
theorem groatlaw07_PrefixMost.mono_l : ∀ k, (∀ y0 y1 y2 y3 y4, LeO (groatlaw07_PrefixMost.j0 k y0 y1 y2 y3 y4) (groatlaw07_PrefixMost.j0 (k + 1) y0 y1 y2 y3 y4))
  | 0 => fun _ _ _ _ _ r h => by simp [groatlaw07_PrefixMost.j0] at h
  | k + 1 => by
    have ih0 := groatlaw07_PrefixMost.mono_l k
    · intro y0 y1 y2 y3 y4
      unfold groatlaw07_PrefixMost.j0
      repeat' first
      | (with_reducible exact ih0 _ _ _ _ _)
      | (with_reducible exact groatlaw07_awake.mono _)
      | (with_reducible exact prefix_Most.mono _ _)
      | (with_reducible exact prefix_Put.mono _ _ _ _)
      | (with_reducible exact LeO.refl _)
      | (with_reducible exact LeO.none _)
      | (with_reducible refine LeO.ite ?_ ?_)
      | (with_reducible refine LeO.bind ?_ (fun _ => ?_))
      | exact ih0 _ _ _ _ _
      | exact groatlaw07_awake.mono _
      | exact prefix_Most.mono _ _
      | exact prefix_Put.mono _ _ _ _
      | exact LeO.none _
      | refine LeO.ite ?_ ?_
      | refine LeO.bind ?_ (fun _ => ?_)
theorem groatlaw07_PrefixMost.mono : ∀ a0 a1 k, LeO (groatlaw07_PrefixMost.f k a0 a1) (groatlaw07_PrefixMost.f (k + 1) a0 a1) := by
  intro a0 a1 k
  have ih0 := groatlaw07_PrefixMost.mono_l k
  unfold groatlaw07_PrefixMost.f
  repeat' first
      | (with_reducible exact ih0 _ _ _ _ _)
      | (with_reducible exact groatlaw07_awake.mono _)
      | (with_reducible exact prefix_Most.mono _ _)
      | (with_reducible exact prefix_Put.mono _ _ _ _)
      | (with_reducible exact LeO.refl _)
      | (with_reducible exact LeO.none _)
      | (with_reducible refine LeO.ite ?_ ?_)
      | (with_reducible refine LeO.bind ?_ (fun _ => ?_))
      | exact ih0 _ _ _ _ _
      | exact groatlaw07_awake.mono _
      | exact prefix_Most.mono _ _
      | exact prefix_Put.mono _ _ _ _
      | exact LeO.none _
      | refine LeO.ite ?_ ?_
      | refine LeO.bind ?_ (fun _ => ?_)
set_option maxHeartbeats 8000000 in
set_option maxRecDepth 100000 in
theorem groatlaw07_PrefixMost.calls (k : Nat) (a0 : Int) (a1 : Int) (r : Bool) (w : World) (h : groatlaw07_PrefixMost.f k a0 a1 = some r) :
    Calls Try.prog 12 #[.int .i64 a0, .int .i64 a1] w fun e w' => e = .returned (.bool r) ∧ Below w.heap.size w w' := by
  have HB := Aside0.mk (Below.refl w.heap.size w)
  have H : ((prefix_Most.f k a1).bind fun t254 => ((prefix_Put.f k a0 a1 t254).bind fun bt255 => ((prefix_Put.f k a0 a1 (wrap64 ((mn t254 1073741824) + 1))).bind fun bt257 => ((groatlaw07_awake.f k).bind fun t259 => (if t259 = true then (if a0 = 1 then (groatlaw07_PrefixMost.j0 k a1 t254 bt255.2 bt257.2 false) else (groatlaw07_PrefixMost.j0 k a1 t254 bt255.2 bt257.2 (a0 != 2))) else (groatlaw07_PrefixMost.j0 k a1 t254 bt255.2 bt257.2 true)))))) = some r := h
  clear h
  replace H := Option.bind_eq_some_iff.mp H
  obtain ⟨t254, A30, H⟩ := H
  replace H : ((prefix_Put.f k a0 a1 t254).bind fun bt255 => ((prefix_Put.f k a0 a1 (wrap64 ((mn t254 1073741824) + 1))).bind fun bt257 => ((groatlaw07_awake.f k).bind fun t259 => (if t259 = true then (if a0 = 1 then (groatlaw07_PrefixMost.j0 k a1 t254 bt255.2 bt257.2 false) else (groatlaw07_PrefixMost.j0 k a1 t254 bt255.2 bt257.2 (a0 != 2))) else (groatlaw07_PrefixMost.j0 k a1 t254 bt255.2 bt257.2 true))))) = some r := H
  have A3 := Aside0.mk A30
  clear A30
  replace H := Option.bind_eq_some_iff.mp H
  obtain ⟨⟨t255, t256⟩, A40, H⟩ := H
  replace H : ((prefix_Put.f k a0 a1 (wrap64 ((mn t254 1073741824) + 1))).bind fun bt257 => ((groatlaw07_awake.f k).bind fun t259 => (if t259 = true then (if a0 = 1 then (groatlaw07_PrefixMost.j0 k a1 t254 t256 bt257.2 false) else (groatlaw07_PrefixMost.j0 k a1 t254 t256 bt257.2 (a0 != 2))) else (groatlaw07_PrefixMost.j0 k a1 t254 t256 bt257.2 true)))) = some r := H
  have A4 := Aside0.mk A40
  clear A40
  obtain ⟨ji5, hji5⟩ : ∃ j_ : Int, (mn t254 1073741824) = j_ := ⟨_, rfl⟩
  replace H : ((prefix_Put.f k a0 a1 (wrap64 ((ji5) + 1))).bind fun bt257 => ((groatlaw07_awake.f k).bind fun t259 => (if t259 = true then (if a0 = 1 then (groatlaw07_PrefixMost.j0 k a1 t254 t256 bt257.2 false) else (groatlaw07_PrefixMost.j0 k a1 t254 t256 bt257.2 (a0 != 2))) else (groatlaw07_PrefixMost.j0 k a1 t254 t256 bt257.2 true)))) = some r := by first | (rw [hji5] at H; exact H) | (simp only [hji5] at H ⊢; exact H)
  (try rw [hji5] at A3)
  (try rw [hji5] at A4)
  (try (have hji5h : ji5 ≤ 1073741824 := by (rw [← hji5]; unfold mn; (repeat' split) <;> omega)))
  (try (have hji5g : ji5 ≤ 64 := by omega))
  have hji5_ : (if 1073741824 < t254 then 1073741824 else t254) = ji5 := hji5
  replace H := Option.bind_eq_some_iff.mp H
  obtain ⟨⟨t257, t258⟩, A60, H⟩ := H
  replace H : ((groatlaw07_awake.f k).bind fun t259 => (if t259 = true then (if a0 = 1 then (groatlaw07_PrefixMost.j0 k a1 t254 t256 t258 false) else (groatlaw07_PrefixMost.j0 k a1 t254 t256 t258 (a0 != 2))) else (groatlaw07_PrefixMost.j0 k a1 t254 t256 t258 true))) = some r := H
  have A6 := Aside0.mk A60
  clear A60
  have HC7 := Aside0.mk H
  clear H
  go_enter Try.func12, Try.ntmps12
  go_upto_region 4 with (first | ((with_reducible refine gate_callee (f := 25) rfl ?_); refine goesL_ (some 11) rfl rfl Try.func25 (by kernel_rfl) rfl #[.int .i64 a1] rfl (by (try simp only [List.map_toArray, List.map_cons, List.map_nil]); first | done | rfl | (simp only [List.length_drop, List.length_take]; rfl)) ?_; (with_reducible refine (prefix_Most.calls k a1 t254 _ A3.out).mono ?_); rintro e w' ⟨rfl, ⟨nd, rfl⟩⟩; refine ⟨_, rfl, ?_⟩) | ((with_reducible refine gate_callee (f := 20) rfl ?_); refine goesL_ (some 16) rfl rfl Try.func20 (by kernel_rfl) rfl #[.int .i64 a0, .int .i64 a1, .int .i64 t254] rfl (by (try simp only [List.map_toArray, List.map_cons, List.map_nil]); first | done | rfl | (simp only [List.length_drop, List.length_take]; rfl)) ?_; (with_reducible refine (prefix_Put.calls k a0 a1 t254 t255 t256 _ A4.out).mono ?_); rintro e w8 ⟨rfl, hb⟩; refine ⟨_, rfl, ?_⟩; have n0_ := Aside0.mk (below_step (by repeat (first | (with_reducible first | exact HB.out | apply below_alloc | apply pw_below_drewN | apply below_drew1) | exact HB.out)) hb); clear HB; have HB := n0_; clear n0_; (try clear hb); (try clear hb2); (try clear hk); (try clear hi)) | ((with_reducible refine gate_callee (f := 20) rfl ?_); refine goesL_ (some 25) rfl rfl Try.func20 (by kernel_rfl) rfl #[.int .i64 a0, .int .i64 a1, .int .i64 (wrap64 ((ji5) + 1))] rfl (by (try simp only [List.map_toArray, List.map_cons, List.map_nil]); first | done | (simp only [hji5]; rfl) | rfl | (simp only [List.length_drop, List.length_take]; rfl)) ?_; (with_reducible refine (prefix_Put.calls k a0 a1 (wrap64 ((ji5) + 1)) t257 t258 _ A6.out).mono ?_); rintro e w9 ⟨rfl, hb⟩; refine ⟨_, rfl, ?_⟩; have n0_ := Aside0.mk (below_step (by repeat (first | (with_reducible first | exact HB.out | apply below_alloc | apply pw_below_drewN | apply below_drew1) | exact HB.out)) hb); clear HB; have HB := n0_; clear n0_; (try clear hb); (try clear hb2); (try clear hk); (try clear hi)))
  (try simp only [Act.put, List.setIfInBounds_toArray, List.set_cons_zero, List.set_cons_succ])
  go_cut [37] (fun v37 wc => ∃ (kq : Nat) (x37_6 : Bool), v37 = .bool x37_6 ∧ Aside0 (groatlaw07_PrefixMost.j0 kq a1 t254 t256 t258 x37_6 = some r) ∧ Aside0 (kq ≤ k) ∧ Aside0 (Below w.heap.size w wc))
  case first =>
    have H := HC7.out
    clear HC7
    replace H := Option.bind_eq_some_iff.mp H
    obtain ⟨t259, A100, H⟩ := H
    replace H : (if t259 = true then (if a0 = 1 then (groatlaw07_PrefixMost.j0 k a1 t254 t256 t258 false) else (groatlaw07_PrefixMost.j0 k a1 t254 t256 t258 (a0 != 2))) else (groatlaw07_PrefixMost.j0 k a1 t254 t256 t258 true)) = some r := H
    have A10 := Aside0.mk A100
    clear A100
    by_cases c11 : t259 = true
    · subst c11
      have H1 : (if a0 = 1 then (groatlaw07_PrefixMost.j0 k a1 t254 t256 t258 false) else (groatlaw07_PrefixMost.j0 k a1 t254 t256 t258 (a0 != 2))) = some r := by rw [if_pos rfl] at H; exact H
      clear H
      have H := H1
      clear H1
      by_cases c12 : a0 = 1
      · rw [if_pos c12] at H
        have c12b0 : (a0 == 1) = true := beq_iff_eq.mpr c12
        have c12b1 : (a0 != 1) = false := bne_eq_false_iff_eq.mpr c12
        clear c12
        (first | rw [c12b0] | (simp only [i64_w, i32_w]; rw [c12b0]) | skip)
        have H' := Aside0.mk H
        clear H
        go_wp2_with (first | ((with_reducible refine gate_callee (f := 22) rfl ?_); refine goesL_ (some 28) rfl rfl Try.func22 (by kernel_rfl) rfl #[] rfl (by (try simp only [List.map_toArray, List.map_cons, List.map_nil]); first | done | rfl | (simp only [List.length_drop, List.length_take]; rfl)) ?_; (with_reducible refine (groatlaw07_awake.calls k  true _ A10.out).mono ?_); rintro e w13 ⟨rfl, hb⟩; refine ⟨_, rfl, ?_⟩; have n0_ := Aside0.mk (below_step (by repeat (first | (with_reducible first | exact HB.out | apply below_alloc | apply pw_below_drewN | apply below_drew1) | exact HB.out)) hb); clear HB; have HB := n0_; clear n0_; (try clear hb); (try clear hb2); (try clear hk); (try clear hi)))
        go_meet
        case rel => exact ⟨_, (false), (by first | rfl | (simp; done) | (simp [*]; done)), H', ⟨by first | omega | exact Nat.le_refl _⟩, ⟨by repeat (first | (with_reducible first | exact HB.out | apply below_alloc | apply pw_below_drewN | apply below_drew1) | exact HB.out)⟩⟩
      · rw [if_neg c12] at H
        have c12b0 : (a0 == 1) = false := beq_eq_false_iff_ne.mpr c12
        have c12b1 : (a0 != 1) = true := bne_iff_ne.mpr c12
        (first | rw [c12b0] | (simp only [i64_w, i32_w]; rw [c12b0]) | skip)
        have H' := Aside0.mk H
        clear H
        go_wp2_with (first | ((with_reducible refine gate_callee (f := 22) rfl ?_); refine goesL_ (some 28) rfl rfl Try.func22 (by kernel_rfl) rfl #[] rfl (by (try simp only [List.map_toArray, List.map_cons, List.map_nil]); first | done | rfl | (simp only [List.length_drop, List.length_take]; rfl)) ?_; (with_reducible refine (groatlaw07_awake.calls k  true _ A10.out).mono ?_); rintro e w14 ⟨rfl, hb⟩; refine ⟨_, rfl, ?_⟩; have n0_ := Aside0.mk (below_step (by repeat (first | (with_reducible first | exact HB.out | apply below_alloc | apply pw_below_drewN | apply below_drew1) | exact HB.out)) hb); clear HB; have HB := n0_; clear n0_; (try clear hb); (try clear hb2); (try clear hk); (try clear hi)))
        go_meet
        case rel => exact ⟨_, ((a0 != 2)), (by first | rfl | (simp; done) | (simp [*]; done)), H', ⟨by first | omega | exact Nat.le_refl _⟩, ⟨by repeat (first | (with_reducible first | exact HB.out | apply below_alloc | apply pw_below_drewN | apply below_drew1) | exact HB.out)⟩⟩
    · replace c11 := Bool.eq_false_iff.mpr c11
      subst c11
      have H1 : (groatlaw07_PrefixMost.j0 k a1 t254 t256 t258 true) = some r := by rw [if_neg (show ¬ (false = true) by decide)] at H; exact H
      clear H
      have H := H1
      clear H1
      have H' := Aside0.mk H
      clear H
      go_wp2_with (first | ((with_reducible refine gate_callee (f := 22) rfl ?_); refine goesL_ (some 28) rfl rfl Try.func22 (by kernel_rfl) rfl #[] rfl (by (try simp only [List.map_toArray, List.map_cons, List.map_nil]); first | done | rfl | (simp only [List.length_drop, List.length_take]; rfl)) ?_; (with_reducible refine (groatlaw07_awake.calls k  false _ A10.out).mono ?_); rintro e w15 ⟨rfl, hb⟩; refine ⟨_, rfl, ?_⟩; have n0_ := Aside0.mk (below_step (by repeat (first | (with_reducible first | exact HB.out | apply below_alloc | apply pw_below_drewN | apply below_drew1) | exact HB.out)) hb); clear HB; have HB := n0_; clear n0_; (try clear hb); (try clear hb2); (try clear hk); (try clear hi)))
      go_meet
      case rel => exact ⟨_, (true), (by first | rfl | (simp; done) | (simp [*]; done)), H', ⟨by first | omega | exact Nat.le_refl _⟩, ⟨by repeat (first | (with_reducible first | exact HB.out | apply below_alloc | apply pw_below_drewN | apply below_drew1) | exact HB.out)⟩⟩
  case rest =>
    clear HC7
    try clear c1
    try clear c2
    try clear p2
    try clear p6
    try clear c11
    try clear c12
    try clear c12b0
    try clear c12b1
    obtain ⟨kq, x37_6, rfl, HA, HJ6, HB⟩ := hcut
    cases kq with
    | zero => exact absurd HA.out (by simp [groatlaw07_PrefixMost.j0])
    | succ kj6 =>
      have H := HA.out
      clear HA
      simp only [groatlaw07_PrefixMost.j0] at H
      by_cases c16 : x37_6 = true
      · subst c16
        have H1 : ((groatlaw07_awake.f kj6).bind fun t260 => (if t260 = true then (if t256 = 1 then (some (t258 == 1)) else (some false)) else (some false))) = some r := by rw [if_pos rfl] at H; exact H
        clear H
        have H := H1
        clear H1
        replace H := Option.bind_eq_some_iff.mp H
        obtain ⟨t260, A170, H⟩ := H
        replace H : (if t260 = true then (if t256 = 1 then (some (t258 == 1)) else (some false)) else (some false)) = some r := H
        have A17 := Aside0.mk A170
        clear A170
        by_cases c18 : t260 = true
        · subst c18
          have H1 : (if t256 = 1 then (some (t258 == 1)) else (some false)) = some r := by rw [if_pos rfl] at H; exact H
          clear H
          have H := H1
          clear H1
          by_cases c19 : t256 = 1
          · rw [if_pos c19] at H
            have c19b0 : (t256 == 1) = true := beq_iff_eq.mpr c19
            have c19b1 : (t256 != 1) = false := bne_eq_false_iff_eq.mpr c19
            clear c19
            obtain rfl := Option.some.inj H
            go_wp2_with (first | ((with_reducible refine gate_callee (f := 22) rfl ?_); refine goesL_ (some 38) rfl rfl Try.func22 (by kernel_rfl) rfl #[] rfl (by (try simp only [List.map_toArray, List.map_cons, List.map_nil]); first | done | rfl | (simp only [List.length_drop, List.length_take]; rfl)) ?_; (with_reducible refine (groatlaw07_awake.calls kj6  true _ A17.out).mono ?_); rintro e w20 ⟨rfl, hb⟩; refine ⟨_, rfl, ?_⟩; have n0_ := Aside0.mk (below_step (by repeat (first | (with_reducible first | exact HB.out | apply below_alloc | apply pw_below_drewN | apply below_drew1) | exact HB.out)) hb); clear HB; have HB := n0_; clear n0_; (try clear hb); (try clear hb2); (try clear hk); (try clear hi)))
            go_ret
            exact ⟨by first | rfl | (simp [errW_none, errW_some] <;> rfl) | (simp only [← hji5]; first | rfl | (simp [errW_none, errW_some] <;> rfl)) | (simp [*, errW_none, errW_some] <;> rfl), by repeat (first | (with_reducible first | exact HB.out | apply below_alloc | apply pw_below_drewN | apply below_drew1) | exact HB.out)⟩
          · rw [if_neg c19] at H
            have c19b0 : (t256 == 1) = false := beq_eq_false_iff_ne.mpr c19
            have c19b1 : (t256 != 1) = true := bne_iff_ne.mpr c19
            obtain rfl := Option.some.inj H
            go_wp2_with (first | ((with_reducible refine gate_callee (f := 22) rfl ?_); refine goesL_ (some 38) rfl rfl Try.func22 (by kernel_rfl) rfl #[] rfl (by (try simp only [List.map_toArray, List.map_cons, List.map_nil]); first | done | rfl | (simp only [List.length_drop, List.length_take]; rfl)) ?_; (with_reducible refine (groatlaw07_awake.calls kj6  true _ A17.out).mono ?_); rintro e w21 ⟨rfl, hb⟩; refine ⟨_, rfl, ?_⟩; have n0_ := Aside0.mk (below_step (by repeat (first | (with_reducible first | exact HB.out | apply below_alloc | apply pw_below_drewN | apply below_drew1) | exact HB.out)) hb); clear HB; have HB := n0_; clear n0_; (try clear hb); (try clear hb2); (try clear hk); (try clear hi)))
            go_ret
            exact ⟨by first | rfl | (simp [errW_none, errW_some] <;> rfl) | (simp only [← hji5]; first | rfl | (simp [errW_none, errW_some] <;> rfl)) | (simp [*, errW_none, errW_some] <;> rfl), by repeat (first | (with_reducible first | exact HB.out | apply below_alloc | apply pw_below_drewN | apply below_drew1) | exact HB.out)⟩
        · replace c18 := Bool.eq_false_iff.mpr c18
          subst c18
          have H1 : (some false) = some r := by rw [if_neg (show ¬ (false = true) by decide)] at H; exact H
          clear H
          have H := H1
          clear H1
          obtain rfl := Option.some.inj H
          go_wp2_with (first | ((with_reducible refine gate_callee (f := 22) rfl ?_); refine goesL_ (some 38) rfl rfl Try.func22 (by kernel_rfl) rfl #[] rfl (by (try simp only [List.map_toArray, List.map_cons, List.map_nil]); first | done | rfl | (simp only [List.length_drop, List.length_take]; rfl)) ?_; (with_reducible refine (groatlaw07_awake.calls kj6  false _ A17.out).mono ?_); rintro e w22 ⟨rfl, hb⟩; refine ⟨_, rfl, ?_⟩; have n0_ := Aside0.mk (below_step (by repeat (first | (with_reducible first | exact HB.out | apply below_alloc | apply pw_below_drewN | apply below_drew1) | exact HB.out)) hb); clear HB; have HB := n0_; clear n0_; (try clear hb); (try clear hb2); (try clear hk); (try clear hi)))
          go_ret
          exact ⟨by first | rfl | (simp [errW_none, errW_some] <;> rfl) | (simp only [← hji5]; first | rfl | (simp [errW_none, errW_some] <;> rfl)) | (simp [*, errW_none, errW_some] <;> rfl), by repeat (first | (with_reducible first | exact HB.out | apply below_alloc | apply pw_below_drewN | apply below_drew1) | exact HB.out)⟩
      · replace c16 := Bool.eq_false_iff.mpr c16
        subst c16
        have H1 : (if a1 = 2 then (if t256 = 0 then (some (t258 == 5)) else (some false)) else (if a1 = 3 then (if t256 = 0 then (some (t258 == 5)) else (some false)) else (if t254 = 0 then (if t256 = 1 then (some (t258 == 1)) else (some false)) else (some false)))) = some r := by rw [if_neg (show ¬ (false = true) by decide)] at H; exact H
        clear H
        have H := H1
        clear H1
        by_cases c23 : a1 = 2
        · rw [if_pos c23] at H
          have c23b0 : (a1 == 2) = true := beq_iff_eq.mpr c23
          have c23b1 : (a1 != 2) = false := bne_eq_false_iff_eq.mpr c23
          clear c23
          by_cases c24 : t256 = 0
          · rw [if_pos c24] at H
            have c24b0 : (t256 == 0) = true := beq_iff_eq.mpr c24
            have c24b1 : (t256 != 0) = false := bne_eq_false_iff_eq.mpr c24
            clear c24
            obtain rfl := Option.some.inj H
            go_wp2
            go_ret
            exact ⟨by first | rfl | (simp [errW_none, errW_some] <;> rfl) | (simp only [← hji5]; first | rfl | (simp [errW_none, errW_some] <;> rfl)) | (simp [*, errW_none, errW_some] <;> rfl), by repeat (first | (with_reducible first | exact HB.out | apply below_alloc | apply pw_below_drewN | apply below_drew1) | exact HB.out)⟩
          · rw [if_neg c24] at H
            have c24b0 : (t256 == 0) = false := beq_eq_false_iff_ne.mpr c24
            have c24b1 : (t256 != 0) = true := bne_iff_ne.mpr c24
            obtain rfl := Option.some.inj H
            go_wp2
            go_ret
            exact ⟨by first | rfl | (simp [errW_none, errW_some] <;> rfl) | (simp only [← hji5]; first | rfl | (simp [errW_none, errW_some] <;> rfl)) | (simp [*, errW_none, errW_some] <;> rfl), by repeat (first | (with_reducible first | exact HB.out | apply below_alloc | apply pw_below_drewN | apply below_drew1) | exact HB.out)⟩
        · rw [if_neg c23] at H
          have c23b0 : (a1 == 2) = false := beq_eq_false_iff_ne.mpr c23
          have c23b1 : (a1 != 2) = true := bne_iff_ne.mpr c23
          by_cases c25 : a1 = 3
          · rw [if_pos c25] at H
            have c25b0 : (a1 == 3) = true := beq_iff_eq.mpr c25
            have c25b1 : (a1 != 3) = false := bne_eq_false_iff_eq.mpr c25
            clear c25
            by_cases c26 : t256 = 0
            · rw [if_pos c26] at H
              have c26b0 : (t256 == 0) = true := beq_iff_eq.mpr c26
              have c26b1 : (t256 != 0) = false := bne_eq_false_iff_eq.mpr c26
              clear c26
              obtain rfl := Option.some.inj H
              go_wp2
              go_ret
              exact ⟨by first | rfl | (simp [errW_none, errW_some] <;> rfl) | (simp only [← hji5]; first | rfl | (simp [errW_none, errW_some] <;> rfl)) | (simp [*, errW_none, errW_some] <;> rfl), by repeat (first | (with_reducible first | exact HB.out | apply below_alloc | apply pw_below_drewN | apply below_drew1) | exact HB.out)⟩
            · rw [if_neg c26] at H
              have c26b0 : (t256 == 0) = false := beq_eq_false_iff_ne.mpr c26
              have c26b1 : (t256 != 0) = true := bne_iff_ne.mpr c26
              obtain rfl := Option.some.inj H
              go_wp2
              go_ret
              exact ⟨by first | rfl | (simp [errW_none, errW_some] <;> rfl) | (simp only [← hji5]; first | rfl | (simp [errW_none, errW_some] <;> rfl)) | (simp [*, errW_none, errW_some] <;> rfl), by repeat (first | (with_reducible first | exact HB.out | apply below_alloc | apply pw_below_drewN | apply below_drew1) | exact HB.out)⟩
          · rw [if_neg c25] at H
            have c25b0 : (a1 == 3) = false := beq_eq_false_iff_ne.mpr c25
            have c25b1 : (a1 != 3) = true := bne_iff_ne.mpr c25
            by_cases c27 : t254 = 0
            · rw [if_pos c27] at H
              have c27b0 : (t254 == 0) = true := beq_iff_eq.mpr c27
              have c27b1 : (t254 != 0) = false := bne_eq_false_iff_eq.mpr c27
              clear c27
              by_cases c28 : t256 = 1
              · rw [if_pos c28] at H
                have c28b0 : (t256 == 1) = true := beq_iff_eq.mpr c28
                have c28b1 : (t256 != 1) = false := bne_eq_false_iff_eq.mpr c28
                clear c28
                obtain rfl := Option.some.inj H
                go_wp2
                go_ret
                exact ⟨by first | rfl | (simp [errW_none, errW_some] <;> rfl) | (simp only [← hji5]; first | rfl | (simp [errW_none, errW_some] <;> rfl)) | (simp [*, errW_none, errW_some] <;> rfl), by repeat (first | (with_reducible first | exact HB.out | apply below_alloc | apply pw_below_drewN | apply below_drew1) | exact HB.out)⟩
              · rw [if_neg c28] at H
                have c28b0 : (t256 == 1) = false := beq_eq_false_iff_ne.mpr c28
                have c28b1 : (t256 != 1) = true := bne_iff_ne.mpr c28
                obtain rfl := Option.some.inj H
                go_wp2
                go_ret
                exact ⟨by first | rfl | (simp [errW_none, errW_some] <;> rfl) | (simp only [← hji5]; first | rfl | (simp [errW_none, errW_some] <;> rfl)) | (simp [*, errW_none, errW_some] <;> rfl), by repeat (first | (with_reducible first | exact HB.out | apply below_alloc | apply pw_below_drewN | apply below_drew1) | exact HB.out)⟩
            · rw [if_neg c27] at H
              have c27b0 : (t254 == 0) = false := beq_eq_false_iff_ne.mpr c27
              have c27b1 : (t254 != 0) = true := bne_iff_ne.mpr c27
              obtain rfl := Option.some.inj H
              go_wp2
              go_ret
              exact ⟨by first | rfl | (simp [errW_none, errW_some] <;> rfl) | (simp only [← hji5]; first | rfl | (simp [errW_none, errW_some] <;> rfl)) | (simp [*, errW_none, errW_some] <;> rfl), by repeat (first | (with_reducible first | exact HB.out | apply below_alloc | apply pw_below_drewN | apply below_drew1) | exact HB.out)⟩

/-- THE ONE PURE STATEMENT of groatlaw07_PrefixMost: yours. -/
def groatlaw07_PrefixMost.Pure : Prop := ∀ (a0 : Int) (a1 : Int), (Lit.int .i64 a0).wf = true → (Lit.int .i64 a1).wf = true → ∃ k, groatlaw07_PrefixMost.f k a0 a1 = some true
theorem groatlaw07_PrefixMost.walk (P : groatlaw07_PrefixMost.Pure) (a0 : Int) (a1 : Int) (w : World) (w0 : (Lit.int .i64 a0).wf = true) (w1 : (Lit.int .i64 a1).wf = true) :
    Calls Try.prog 12 #[.int .i64 a0, .int .i64 a1] w fun e w' => e = .returned (.bool true) ∧ Below w.heap.size w w' := by
  obtain ⟨k, h⟩ := P a0 a1 w0 w1
  refine (groatlaw07_PrefixMost.calls k a0 a1 true w h).mono ?_
  rintro e w' ⟨rfl, hd⟩
  exact ⟨rfl, hd⟩

end Go.Proofs.Yticiemnnfipoiaa.P
