-- written for this claim by wip/pp.py
import Derived.Test.YtjpeldblipfjnaaPx0
import Derived.Test.YtjpeldblipfjnaaPx4
import Derived.Test.YtjpeldblipfjnaaPx5
namespace Go.Proofs.Ytjpeldblipfjnaa.P
open Go.RowKit Go.Proofs.YtjpeldblipfjnaaW.PrintWords Go.Proofs.YtjpeldblipfjnaaW.PrintLast Go.Proofs.YtjpeldblipfjnaaW.PrintMore
attribute [local go_sem] max2_int min2_int max_two min_two max_three min_three max_four min_four   -- for this text's walks alone
set_option linter.unusedVariables false
set_option linter.unusedSimpArgs false

/-! ### groatlaw04_ClassKeeps: function 10 -/
def groatlaw04_ClassKeeps.j0 : Nat → Int → Int → ByteArray → Bool → Option (Bool)
  | 0, _, _, _, _ => none
  | k + 1, x0, x1, x2, x19 => if x19 = true then ((groatlaw04_awake.f k).bind fun t205 => (some t205)) else ((class_First.f k x1 x2).bind fun t206 => (if t206 ≥ 0 then (some true) else ((class_First.f k x0 x2).bind fun t207 => (some (t207 == (-1))))))
def groatlaw04_ClassKeeps.f (k : Nat) (a0 : Int) (a1 : Int) (a2 : ByteArray) : Option (Bool) := (groatlaw04_awake.f k).bind fun t203 => (if t203 = true then (if (a2.size : Int) > 2000 then (groatlaw04_ClassKeeps.j0 k a0 a1 a2 true) else ((class_Wider.f a0 a1).bind fun t204 => (groatlaw04_ClassKeeps.j0 k a0 a1 a2 (!t204)))) else (groatlaw04_ClassKeeps.j0 k a0 a1 a2 true))
theorem groatlaw04_ClassKeeps.mono_l : ∀ k, (∀ y0 y1 y2 y3, LeO (groatlaw04_ClassKeeps.j0 k y0 y1 y2 y3) (groatlaw04_ClassKeeps.j0 (k + 1) y0 y1 y2 y3))
  | 0 => fun _ _ _ _ r h => by simp [groatlaw04_ClassKeeps.j0] at h
  | k + 1 => by
    have ih0 := groatlaw04_ClassKeeps.mono_l k
    · intro y0 y1 y2 y3
      unfold groatlaw04_ClassKeeps.j0
      repeat' first
      | (with_reducible exact ih0 _ _ _ _)
      | (with_reducible exact class_First.mono _ _ _)
      | (with_reducible exact groatlaw04_awake.mono _)
      | (with_reducible exact LeO.refl _)
      | (with_reducible exact LeO.none _)
      | (with_reducible refine LeO.ite ?_ ?_)
      | (with_reducible refine LeO.bind ?_ (fun _ => ?_))
      | exact ih0 _ _ _ _
      | exact class_First.mono _ _ _
      | exact groatlaw04_awake.mono _
      | exact LeO.none _
      | refine LeO.ite ?_ ?_
      | refine LeO.bind ?_ (fun _ => ?_)
theorem groatlaw04_ClassKeeps.mono : ∀ a0 a1 a2 k, LeO (groatlaw04_ClassKeeps.f k a0 a1 a2) (groatlaw04_ClassKeeps.f (k + 1) a0 a1 a2) := by
  intro a0 a1 a2 k
  have ih0 := groatlaw04_ClassKeeps.mono_l k
  unfold groatlaw04_ClassKeeps.f
  repeat' first
      | (with_reducible exact ih0 _ _ _ _)
      | (with_reducible exact class_First.mono _ _ _)
      | (with_reducible exact groatlaw04_awake.mono _)
      | (with_reducible exact LeO.refl _)
      | (with_reducible exact LeO.none _)
      | (with_reducible refine LeO.ite ?_ ?_)
      | (with_reducible refine LeO.bind ?_ (fun _ => ?_))
      | exact ih0 _ _ _ _
      | exact class_First.mono _ _ _
      | exact groatlaw04_awake.mono _
      | exact LeO.none _
      | refine LeO.ite ?_ ?_
      | refine LeO.bind ?_ (fun _ => ?_)
set_option maxHeartbeats 8000000 in
set_option maxRecDepth 100000 in
theorem groatlaw04_ClassKeeps.calls (k : Nat) (a0 : Int) (a1 : Int) (a2 : ByteArray) (r : Bool) (w : World) (h : groatlaw04_ClassKeeps.f k a0 a1 a2 = some r) :
    Calls Try.prog 10 #[.int .i64 a0, .int .i64 a1, .string a2] w fun e w' => e = .returned (.bool r) ∧ Drawn0 w w' := by
  have H : ((groatlaw04_awake.f k).bind fun t203 => (if t203 = true then (if (a2.size : Int) > 2000 then (groatlaw04_ClassKeeps.j0 k a0 a1 a2 true) else ((class_Wider.f a0 a1).bind fun t204 => (groatlaw04_ClassKeeps.j0 k a0 a1 a2 (!t204)))) else (groatlaw04_ClassKeeps.j0 k a0 a1 a2 true))) = some r := h
  clear h
  have HC4 := Aside0.mk H
  clear H
  go_enter Try.func10, Try.ntmps10
  go_upto_region 1 with (fail)
  go_cut [19] (fun v19 wc => ∃ (kq : Nat) (x19_3 : Bool), v19 = .bool x19_3 ∧ Aside0 (groatlaw04_ClassKeeps.j0 kq a0 a1 a2 x19_3 = some r) ∧ Aside0 (kq ≤ k) ∧ Drawn0 w wc)
  case first =>
    have H := HC4.out
    clear HC4
    replace H := Option.bind_eq_some_iff.mp H
    obtain ⟨t203, A50, H⟩ := H
    replace H : (if t203 = true then (if (a2.size : Int) > 2000 then (groatlaw04_ClassKeeps.j0 k a0 a1 a2 true) else ((class_Wider.f a0 a1).bind fun t204 => (groatlaw04_ClassKeeps.j0 k a0 a1 a2 (!t204)))) else (groatlaw04_ClassKeeps.j0 k a0 a1 a2 true)) = some r := H
    have A5 := Aside0.mk A50
    clear A50
    by_cases c6 : t203 = true
    · subst c6
      have H1 : (if (a2.size : Int) > 2000 then (groatlaw04_ClassKeeps.j0 k a0 a1 a2 true) else ((class_Wider.f a0 a1).bind fun t204 => (groatlaw04_ClassKeeps.j0 k a0 a1 a2 (!t204)))) = some r := by rw [if_pos rfl] at H; exact H
      clear H
      have H := H1
      clear H1
      by_cases c7 : (a2.size : Int) > 2000
      · rw [if_pos c7] at H
        have c7b0 : decide (2000 < (a2.size : Int)) = true := decide_eq_true c7
        have c7b1 : decide (2000 < a2.size) = true := decide_eq_true (by omega)
        clear c7
        (first | rw [c7b0] | (simp only [i64_w, i32_w]; rw [c7b0]) | skip)
        have H' := Aside0.mk H
        clear H
        go_wp2_with (first | ((with_reducible refine gate_callee (f := 20) rfl ?_); refine goesL_ (some 7) rfl rfl Try.func20 (by kernel_rfl) rfl #[] rfl (by (try simp only [List.map_toArray, List.map_cons, List.map_nil]); first | done | rfl | (simp only [List.length_drop, List.length_take]; rfl)) ?_; (with_reducible refine (groatlaw04_awake.calls k  true _ A5.out).mono ?_); rintro e w' ⟨rfl, ⟨nd, rfl⟩⟩; refine ⟨_, rfl, ?_⟩))
        go_meet
        case rel => exact ⟨_, (true), (by first | rfl | (simp; done) | (simp [*]; done)), H', ⟨by first | omega | exact Nat.le_refl _⟩, by repeat (first | exact Drawn0.refl _ | apply Drawn0.step)⟩
      · rw [if_neg c7] at H
        have c7b0 : decide (2000 < (a2.size : Int)) = false := decide_eq_false c7
        have c7b1 : decide (2000 < a2.size) = false := decide_eq_false (by omega)
        clear c7
        (first | rw [c7b0] | (simp only [i64_w, i32_w]; rw [c7b0]) | skip)
        replace H := Option.bind_eq_some_iff.mp H
        obtain ⟨t204, A80, H⟩ := H
        replace H : (groatlaw04_ClassKeeps.j0 k a0 a1 a2 (!t204)) = some r := H
        have A8 := Aside0.mk A80
        clear A80
        have H' := Aside0.mk H
        clear H
        go_wp2_with (first | ((with_reducible refine gate_callee (f := 20) rfl ?_); refine goesL_ (some 7) rfl rfl Try.func20 (by kernel_rfl) rfl #[] rfl (by (try simp only [List.map_toArray, List.map_cons, List.map_nil]); first | done | rfl | (simp only [List.length_drop, List.length_take]; rfl)) ?_; (with_reducible refine (groatlaw04_awake.calls k  true _ A5.out).mono ?_); rintro e w' ⟨rfl, ⟨nd, rfl⟩⟩; refine ⟨_, rfl, ?_⟩) | (go_at_call 23; (with_reducible refine (class_Wider.calls a0 a1 t204 _ A8.out).mono ?_); rintro e w' ⟨rfl, ⟨nd, rfl⟩⟩))
        go_meet
        case rel => exact ⟨_, (!t204), (by first | rfl | (simp; done) | (simp [*]; done)), H', ⟨by first | omega | exact Nat.le_refl _⟩, by repeat (first | exact Drawn0.refl _ | apply Drawn0.step)⟩
    · replace c6 := Bool.eq_false_iff.mpr c6
      subst c6
      have H1 : (groatlaw04_ClassKeeps.j0 k a0 a1 a2 true) = some r := by rw [if_neg (show ¬ (false = true) by decide)] at H; exact H
      clear H
      have H := H1
      clear H1
      have H' := Aside0.mk H
      clear H
      go_wp2_with (first | ((with_reducible refine gate_callee (f := 20) rfl ?_); refine goesL_ (some 7) rfl rfl Try.func20 (by kernel_rfl) rfl #[] rfl (by (try simp only [List.map_toArray, List.map_cons, List.map_nil]); first | done | rfl | (simp only [List.length_drop, List.length_take]; rfl)) ?_; (with_reducible refine (groatlaw04_awake.calls k  false _ A5.out).mono ?_); rintro e w' ⟨rfl, ⟨nd, rfl⟩⟩; refine ⟨_, rfl, ?_⟩))
      go_meet
      case rel => exact ⟨_, (true), (by first | rfl | (simp; done) | (simp [*]; done)), H', ⟨by first | omega | exact Nat.le_refl _⟩, by repeat (first | exact Drawn0.refl _ | apply Drawn0.step)⟩
  case rest =>
    clear HC4
    try clear c1
    try clear c2
    try clear p2
    try clear c6
    try clear c7
    try clear c7b0
    try clear c7b1
    obtain ⟨kq, x19_3, rfl, HA, HJ3, ⟨mc3, rfl⟩⟩ := hcut
    cases kq with
    | zero => exact absurd HA.out (by simp [groatlaw04_ClassKeeps.j0])
    | succ kj3 =>
      have H := HA.out
      clear HA
      simp only [groatlaw04_ClassKeeps.j0] at H
      by_cases c9 : x19_3 = true
      · subst c9
        have H1 : ((groatlaw04_awake.f kj3).bind fun t205 => (some t205)) = some r := by rw [if_pos rfl] at H; exact H
        clear H
        have H := H1
        clear H1
        replace H := Option.bind_eq_some_iff.mp H
        obtain ⟨t205, A100, H⟩ := H
        replace H : (some t205) = some r := H
        have A10 := Aside0.mk A100
        clear A100
        obtain rfl := Option.some.inj H
        go_wp2_with (first | ((with_reducible refine gate_callee (f := 20) rfl ?_); refine goesL_ (some 20) rfl rfl Try.func20 (by kernel_rfl) rfl #[] rfl (by (try simp only [List.map_toArray, List.map_cons, List.map_nil]); first | done | rfl | (simp only [List.length_drop, List.length_take]; rfl)) ?_; (with_reducible refine (groatlaw04_awake.calls kj3  t205 _ A10.out).mono ?_); rintro e w' ⟨rfl, ⟨nd, rfl⟩⟩; refine ⟨_, rfl, ?_⟩))
        go_ret
        exact ⟨by first | rfl | (simp; done) | (simp [*]; done), by repeat (first | exact Drawn0.refl _ | apply Drawn0.step)⟩
      · replace c9 := Bool.eq_false_iff.mpr c9
        subst c9
        have H1 : ((class_First.f kj3 a1 a2).bind fun t206 => (if t206 ≥ 0 then (some true) else ((class_First.f kj3 a0 a2).bind fun t207 => (some (t207 == (-1)))))) = some r := by rw [if_neg (show ¬ (false = true) by decide)] at H; exact H
        clear H
        have H := H1
        clear H1
        replace H := Option.bind_eq_some_iff.mp H
        obtain ⟨t206, A110, H⟩ := H
        replace H : (if t206 ≥ 0 then (some true) else ((class_First.f kj3 a0 a2).bind fun t207 => (some (t207 == (-1))))) = some r := H
        have A11 := Aside0.mk A110
        clear A110
        by_cases c12 : t206 ≥ 0
        · rw [if_pos c12] at H
          have c12b0 : decide (0 ≤ t206) = true := decide_eq_true c12
          clear c12
          obtain rfl := Option.some.inj H
          go_wp2_with (first | ((with_reducible refine gate_callee (f := 21) rfl ?_); refine goesL_ (some 23) rfl rfl Try.func21 (by kernel_rfl) rfl #[.int .i64 a1, .string a2] rfl (by (try simp only [List.map_toArray, List.map_cons, List.map_nil]); first | done | rfl | (simp only [List.length_drop, List.length_take]; rfl)) ?_; (with_reducible refine (class_First.calls kj3 a1 a2 t206 _ A11.out).mono ?_); rintro e w' ⟨rfl, ⟨nd, rfl⟩⟩; refine ⟨_, rfl, ?_⟩))
          go_ret
          exact ⟨by first | rfl | (simp; done) | (simp [*]; done), by repeat (first | exact Drawn0.refl _ | apply Drawn0.step)⟩
        · rw [if_neg c12] at H
          have c12b0 : decide (0 ≤ t206) = false := decide_eq_false c12
          clear c12
          replace H := Option.bind_eq_some_iff.mp H
          obtain ⟨t207, A130, H⟩ := H
          replace H : (some (t207 == (-1))) = some r := H
          have A13 := Aside0.mk A130
          clear A130
          obtain rfl := Option.some.inj H
          go_wp2_with (first | ((with_reducible refine gate_callee (f := 21) rfl ?_); refine goesL_ (some 23) rfl rfl Try.func21 (by kernel_rfl) rfl #[.int .i64 a1, .string a2] rfl (by (try simp only [List.map_toArray, List.map_cons, List.map_nil]); first | done | rfl | (simp only [List.length_drop, List.length_take]; rfl)) ?_; (with_reducible refine (class_First.calls kj3 a1 a2 t206 _ A11.out).mono ?_); rintro e w' ⟨rfl, ⟨nd, rfl⟩⟩; refine ⟨_, rfl, ?_⟩) | (go_at_call 21; (with_reducible refine (class_First.calls kj3 a0 a2 t207 _ A13.out).mono ?_); rintro e w' ⟨rfl, ⟨nd, rfl⟩⟩))
          go_ret
          exact ⟨by first | rfl | (simp; done) | (simp [*]; done), by repeat (first | exact Drawn0.refl _ | apply Drawn0.step)⟩

/-- THE ONE PURE STATEMENT of groatlaw04_ClassKeeps: yours. -/
def groatlaw04_ClassKeeps.Pure : Prop := ∀ (a0 : Int) (a1 : Int) (a2 : ByteArray), (Lit.int .i64 a0).wf = true → (Lit.int .i64 a1).wf = true → a2.size ≤ 140737488351232 → ∃ k, groatlaw04_ClassKeeps.f k a0 a1 a2 = some true
theorem groatlaw04_ClassKeeps.walk (P : groatlaw04_ClassKeeps.Pure) (a0 : Int) (a1 : Int) (a2 : ByteArray) (w : World) (w0 : (Lit.int .i64 a0).wf = true) (w1 : (Lit.int .i64 a1).wf = true) (w2 : a2.size ≤ 140737488351232) :
    Calls Try.prog 10 #[.int .i64 a0, .int .i64 a1, .string a2] w fun e w' => e = .returned (.bool true) ∧ Below w.heap.size w w' := by
  obtain ⟨k, h⟩ := P a0 a1 a2 w0 w1 w2
  refine (groatlaw04_ClassKeeps.calls k a0 a1 a2 true w h).mono ?_
  rintro e w' ⟨rfl, hd⟩
  exact ⟨rfl, hd.below⟩

/-! ### groatlaw04_ClassParts: function 11 -/
def groatlaw04_ClassParts.j0 : Nat → Int → ByteArray → ByteArray → Bool → Option (Bool)
  | 0, _, _, _, _ => none
  | k + 1, x0, x1, x2, x20 => if x20 = true then ((groatlaw04_awake.f k).bind fun t209 => (some t209)) else ((class_First.f k x0 x1).bind fun t210 => ((class_First.f k x0 x2).bind fun t211 => (if t210 < 0 then (if t211 ≥ 0 then (if x1.size + x2.size ≤ 9223372036854775807 then ((class_First.f k x0 (x1 ++ x2)).bind fun t212 => (some (t212 == (wrap64 ((x1.size : Int) + (mn t211 (x2.size : Int))))))) else (none)) else (if x1.size + x2.size ≤ 9223372036854775807 then ((class_First.f k x0 (x1 ++ x2)).bind fun t213 => (some (t213 == t210))) else (none))) else (if x1.size + x2.size ≤ 9223372036854775807 then ((class_First.f k x0 (x1 ++ x2)).bind fun t214 => (some (t214 == t210))) else (none)))))
def groatlaw04_ClassParts.f (k : Nat) (a0 : Int) (a1 : ByteArray) (a2 : ByteArray) : Option (Bool) := (groatlaw04_awake.f k).bind fun t208 => (if t208 = true then (if (a1.size : Int) > 1000 then (groatlaw04_ClassParts.j0 k a0 a1 a2 true) else (groatlaw04_ClassParts.j0 k a0 a1 a2 (decide ((a2.size : Int) > 1000)))) else (groatlaw04_ClassParts.j0 k a0 a1 a2 true))
theorem groatlaw04_ClassParts.mono_l : ∀ k, (∀ y0 y1 y2 y3, LeO (groatlaw04_ClassParts.j0 k y0 y1 y2 y3) (groatlaw04_ClassParts.j0 (k + 1) y0 y1 y2 y3))
  | 0 => fun _ _ _ _ r h => by simp [groatlaw04_ClassParts.j0] at h
  | k + 1 => by
    have ih0 := groatlaw04_ClassParts.mono_l k
    · intro y0 y1 y2 y3
      unfold groatlaw04_ClassParts.j0
      repeat' first
      | (with_reducible exact ih0 _ _ _ _)
      | (with_reducible exact class_First.mono _ _ _)
      | (with_reducible exact groatlaw04_awake.mono _)
      | (with_reducible exact LeO.refl _)
      | (with_reducible exact LeO.none _)
      | (with_reducible refine LeO.ite ?_ ?_)
      | (with_reducible refine LeO.bind ?_ (fun _ => ?_))
      | exact ih0 _ _ _ _
      | exact class_First.mono _ _ _
      | exact groatlaw04_awake.mono _
      | exact LeO.none _
      | refine LeO.ite ?_ ?_
      | refine LeO.bind ?_ (fun _ => ?_)
theorem groatlaw04_ClassParts.mono : ∀ a0 a1 a2 k, LeO (groatlaw04_ClassParts.f k a0 a1 a2) (groatlaw04_ClassParts.f (k + 1) a0 a1 a2) := by
  intro a0 a1 a2 k
  have ih0 := groatlaw04_ClassParts.mono_l k
  unfold groatlaw04_ClassParts.f
  repeat' first
      | (with_reducible exact ih0 _ _ _ _)
      | (with_reducible exact class_First.mono _ _ _)
      | (with_reducible exact groatlaw04_awake.mono _)
      | (with_reducible exact LeO.refl _)
      | (with_reducible exact LeO.none _)
      | (with_reducible refine LeO.ite ?_ ?_)
      | (with_reducible refine LeO.bind ?_ (fun _ => ?_))
      | exact ih0 _ _ _ _
      | exact class_First.mono _ _ _
      | exact groatlaw04_awake.mono _
      | exact LeO.none _
      | refine LeO.ite ?_ ?_
      | refine LeO.bind ?_ (fun _ => ?_)
set_option maxHeartbeats 8000000 in
set_option maxRecDepth 100000 in
theorem groatlaw04_ClassParts.calls (k : Nat) (a0 : Int) (a1 : ByteArray) (a2 : ByteArray) (r : Bool) (w : World) (h : groatlaw04_ClassParts.f k a0 a1 a2 = some r) :
    Calls Try.prog 11 #[.int .i64 a0, .string a1, .string a2] w fun e w' => e = .returned (.bool r) ∧ Below w.heap.size w w' := by
  have HB := Aside0.mk (Below.refl w.heap.size w)
  have H : ((groatlaw04_awake.f k).bind fun t208 => (if t208 = true then (if (a1.size : Int) > 1000 then (groatlaw04_ClassParts.j0 k a0 a1 a2 true) else (groatlaw04_ClassParts.j0 k a0 a1 a2 (decide ((a2.size : Int) > 1000)))) else (groatlaw04_ClassParts.j0 k a0 a1 a2 true))) = some r := h
  clear h
  have HC4 := Aside0.mk H
  clear H
  go_enter Try.func11, Try.ntmps11
  go_upto_region 1 with (fail)
  go_cut [20] (fun v20 wc => ∃ (kq : Nat) (x20_3 : Bool), v20 = .bool x20_3 ∧ Aside0 (groatlaw04_ClassParts.j0 kq a0 a1 a2 x20_3 = some r) ∧ Aside0 (kq ≤ k) ∧ Aside0 (Below w.heap.size w wc))
  case first =>
    have H := HC4.out
    clear HC4
    replace H := Option.bind_eq_some_iff.mp H
    obtain ⟨t208, A50, H⟩ := H
    replace H : (if t208 = true then (if (a1.size : Int) > 1000 then (groatlaw04_ClassParts.j0 k a0 a1 a2 true) else (groatlaw04_ClassParts.j0 k a0 a1 a2 (decide ((a2.size : Int) > 1000)))) else (groatlaw04_ClassParts.j0 k a0 a1 a2 true)) = some r := H
    have A5 := Aside0.mk A50
    clear A50
    by_cases c6 : t208 = true
    · subst c6
      have H1 : (if (a1.size : Int) > 1000 then (groatlaw04_ClassParts.j0 k a0 a1 a2 true) else (groatlaw04_ClassParts.j0 k a0 a1 a2 (decide ((a2.size : Int) > 1000)))) = some r := by rw [if_pos rfl] at H; exact H
      clear H
      have H := H1
      clear H1
      by_cases c7 : (a1.size : Int) > 1000
      · rw [if_pos c7] at H
        have c7b0 : decide (1000 < (a1.size : Int)) = true := decide_eq_true c7
        have c7b1 : decide (1000 < a1.size) = true := decide_eq_true (by omega)
        clear c7
        (first | rw [c7b0] | (simp only [i64_w, i32_w]; rw [c7b0]) | skip)
        have H' := Aside0.mk H
        clear H
        go_wp2_with (first | ((with_reducible refine gate_callee (f := 20) rfl ?_); refine goesL_ (some 9) rfl rfl Try.func20 (by kernel_rfl) rfl #[] rfl (by (try simp only [List.map_toArray, List.map_cons, List.map_nil]); first | done | rfl | (simp only [List.length_drop, List.length_take]; rfl)) ?_; (with_reducible refine (groatlaw04_awake.calls k  true _ A5.out).mono ?_); rintro e w' ⟨rfl, ⟨nd, rfl⟩⟩; refine ⟨_, rfl, ?_⟩))
        go_meet
        case rel => exact ⟨_, (true), (by first | rfl | (simp; done) | (simp [*]; done)), H', ⟨by first | omega | exact Nat.le_refl _⟩, ⟨by repeat (first | (with_reducible first | exact HB.out | apply below_alloc | apply pw_below_drewN | apply below_drew1) | exact HB.out)⟩⟩
      · rw [if_neg c7] at H
        have c7b0 : decide (1000 < (a1.size : Int)) = false := decide_eq_false c7
        have c7b1 : decide (1000 < a1.size) = false := decide_eq_false (by omega)
        clear c7
        (first | rw [c7b0] | (simp only [i64_w, i32_w]; rw [c7b0]) | skip)
        have H' := Aside0.mk H
        clear H
        go_wp2_with (first | ((with_reducible refine gate_callee (f := 20) rfl ?_); refine goesL_ (some 9) rfl rfl Try.func20 (by kernel_rfl) rfl #[] rfl (by (try simp only [List.map_toArray, List.map_cons, List.map_nil]); first | done | rfl | (simp only [List.length_drop, List.length_take]; rfl)) ?_; (with_reducible refine (groatlaw04_awake.calls k  true _ A5.out).mono ?_); rintro e w' ⟨rfl, ⟨nd, rfl⟩⟩; refine ⟨_, rfl, ?_⟩))
        go_meet
        case rel => exact ⟨_, (decide ((a2.size : Int) > 1000)), (by first | rfl | (simp; done) | (simp [*]; done)), H', ⟨by first | omega | exact Nat.le_refl _⟩, ⟨by repeat (first | (with_reducible first | exact HB.out | apply below_alloc | apply pw_below_drewN | apply below_drew1) | exact HB.out)⟩⟩
    · replace c6 := Bool.eq_false_iff.mpr c6
      subst c6
      have H1 : (groatlaw04_ClassParts.j0 k a0 a1 a2 true) = some r := by rw [if_neg (show ¬ (false = true) by decide)] at H; exact H
      clear H
      have H := H1
      clear H1
      have H' := Aside0.mk H
      clear H
      go_wp2_with (first | ((with_reducible refine gate_callee (f := 20) rfl ?_); refine goesL_ (some 9) rfl rfl Try.func20 (by kernel_rfl) rfl #[] rfl (by (try simp only [List.map_toArray, List.map_cons, List.map_nil]); first | done | rfl | (simp only [List.length_drop, List.length_take]; rfl)) ?_; (with_reducible refine (groatlaw04_awake.calls k  false _ A5.out).mono ?_); rintro e w' ⟨rfl, ⟨nd, rfl⟩⟩; refine ⟨_, rfl, ?_⟩))
      go_meet
      case rel => exact ⟨_, (true), (by first | rfl | (simp; done) | (simp [*]; done)), H', ⟨by first | omega | exact Nat.le_refl _⟩, ⟨by repeat (first | (with_reducible first | exact HB.out | apply below_alloc | apply pw_below_drewN | apply below_drew1) | exact HB.out)⟩⟩
  case rest =>
    clear HC4
    try clear c1
    try clear c2
    try clear p2
    try clear c6
    try clear c7
    try clear c7b0
    try clear c7b1
    obtain ⟨kq, x20_3, rfl, HA, HJ3, HB⟩ := hcut
    cases kq with
    | zero => exact absurd HA.out (by simp [groatlaw04_ClassParts.j0])
    | succ kj3 =>
      have H := HA.out
      clear HA
      simp only [groatlaw04_ClassParts.j0] at H
      by_cases c8 : x20_3 = true
      · subst c8
        have H1 : ((groatlaw04_awake.f kj3).bind fun t209 => (some t209)) = some r := by rw [if_pos rfl] at H; exact H
        clear H
        have H := H1
        clear H1
        replace H := Option.bind_eq_some_iff.mp H
        obtain ⟨t209, A90, H⟩ := H
        replace H : (some t209) = some r := H
        have A9 := Aside0.mk A90
        clear A90
        obtain rfl := Option.some.inj H
        go_wp2_with (first | ((with_reducible refine gate_callee (f := 20) rfl ?_); refine goesL_ (some 21) rfl rfl Try.func20 (by kernel_rfl) rfl #[] rfl (by (try simp only [List.map_toArray, List.map_cons, List.map_nil]); first | done | rfl | (simp only [List.length_drop, List.length_take]; rfl)) ?_; (with_reducible refine (groatlaw04_awake.calls kj3  t209 _ A9.out).mono ?_); rintro e w' ⟨rfl, ⟨nd, rfl⟩⟩; refine ⟨_, rfl, ?_⟩))
        go_ret
        exact ⟨by first | rfl | (simp [errW_none, errW_some] <;> rfl) | (simp [*, errW_none, errW_some] <;> rfl), by repeat (first | (with_reducible first | exact HB.out | apply below_alloc | apply pw_below_drewN | apply below_drew1) | exact HB.out)⟩
      · replace c8 := Bool.eq_false_iff.mpr c8
        subst c8
        have H1 : ((class_First.f kj3 a0 a1).bind fun t210 => ((class_First.f kj3 a0 a2).bind fun t211 => (if t210 < 0 then (if t211 ≥ 0 then (if a1.size + a2.size ≤ 9223372036854775807 then ((class_First.f kj3 a0 (a1 ++ a2)).bind fun t212 => (some (t212 == (wrap64 ((a1.size : Int) + (mn t211 (a2.size : Int))))))) else (none)) else (if a1.size + a2.size ≤ 9223372036854775807 then ((class_First.f kj3 a0 (a1 ++ a2)).bind fun t213 => (some (t213 == t210))) else (none))) else (if a1.size + a2.size ≤ 9223372036854775807 then ((class_First.f kj3 a0 (a1 ++ a2)).bind fun t214 => (some (t214 == t210))) else (none))))) = some r := by rw [if_neg (show ¬ (false = true) by decide)] at H; exact H
        clear H
        have H := H1
        clear H1
        replace H := Option.bind_eq_some_iff.mp H
        obtain ⟨t210, A100, H⟩ := H
        replace H : ((class_First.f kj3 a0 a2).bind fun t211 => (if t210 < 0 then (if t211 ≥ 0 then (if a1.size + a2.size ≤ 9223372036854775807 then ((class_First.f kj3 a0 (a1 ++ a2)).bind fun t212 => (some (t212 == (wrap64 ((a1.size : Int) + (mn t211 (a2.size : Int))))))) else (none)) else (if a1.size + a2.size ≤ 9223372036854775807 then ((class_First.f kj3 a0 (a1 ++ a2)).bind fun t213 => (some (t213 == t210))) else (none))) else (if a1.size + a2.size ≤ 9223372036854775807 then ((class_First.f kj3 a0 (a1 ++ a2)).bind fun t214 => (some (t214 == t210))) else (none)))) = some r := H
        have A10 := Aside0.mk A100
        clear A100
        replace H := Option.bind_eq_some_iff.mp H
        obtain ⟨t211, A110, H⟩ := H
        replace H : (if t210 < 0 then (if t211 ≥ 0 then (if a1.size + a2.size ≤ 9223372036854775807 then ((class_First.f kj3 a0 (a1 ++ a2)).bind fun t212 => (some (t212 == (wrap64 ((a1.size : Int) + (mn t211 (a2.size : Int))))))) else (none)) else (if a1.size + a2.size ≤ 9223372036854775807 then ((class_First.f kj3 a0 (a1 ++ a2)).bind fun t213 => (some (t213 == t210))) else (none))) else (if a1.size + a2.size ≤ 9223372036854775807 then ((class_First.f kj3 a0 (a1 ++ a2)).bind fun t214 => (some (t214 == t210))) else (none))) = some r := H
        have A11 := Aside0.mk A110
        clear A110
        by_cases c12 : t210 < 0
        · rw [if_pos c12] at H
          have c12b0 : decide (t210 < 0) = true := decide_eq_true c12
          clear c12
          by_cases c13 : t211 ≥ 0
          · rw [if_pos c13] at H
            have c13b0 : decide (0 ≤ t211) = true := decide_eq_true c13
            clear c13
            obtain ⟨ji14, hji14⟩ : ∃ j_ : Int, (mn t211 (a2.size : Int)) = j_ := ⟨_, rfl⟩
            replace H : (if a1.size + a2.size ≤ 9223372036854775807 then ((class_First.f kj3 a0 (a1 ++ a2)).bind fun t212 => (some (t212 == (wrap64 ((a1.size : Int) + (ji14)))))) else (none)) = some r := by first | (rw [hji14] at H; exact H) | (simp only [hji14] at H ⊢; exact H)
            (try rw [hji14] at A10)
            (try rw [hji14] at A11)
            have hji14_ : (if (a2.size : Int) < t211 then (a2.size : Int) else t211) = ji14 := hji14
            by_cases c15 : a1.size + a2.size ≤ 9223372036854775807
            · rw [if_pos c15] at H
              have c15b0 := eq_true c15
              have c15b1 : decide (a1.size + a2.size ≤ 9223372036854775807) = true := decide_eq_true c15
              try have c15b2 : (9223372036854775807 < a1.size + a2.size) = False := eq_false (Nat.not_lt.2 c15)
              try (have c15b3 := c15b2; simp only [ByteArray.size_extract, ByteArray.size_append, Nat.min_self, Nat.sub_zero] at c15b3)
              replace H := Option.bind_eq_some_iff.mp H
              obtain ⟨t212, A160, H⟩ := H
              replace H : (some (t212 == (wrap64 ((a1.size : Int) + (ji14))))) = some r := H
              have A16 := Aside0.mk A160
              clear A160
              obtain rfl := Option.some.inj H
              go_wp2_with (first | ((with_reducible refine gate_callee (f := 21) rfl ?_); refine goesL_ (some 24) rfl rfl Try.func21 (by kernel_rfl) rfl #[.int .i64 a0, .string a1] rfl (by (try simp only [List.map_toArray, List.map_cons, List.map_nil]); first | done | rfl | (simp only [List.length_drop, List.length_take]; rfl)) ?_; (with_reducible refine (class_First.calls kj3 a0 a1 t210 _ A10.out).mono ?_); rintro e w' ⟨rfl, ⟨nd, rfl⟩⟩; refine ⟨_, rfl, ?_⟩) | ((with_reducible refine gate_callee (f := 21) rfl ?_); refine goesL_ (some 27) rfl rfl Try.func21 (by kernel_rfl) rfl #[.int .i64 a0, .string a2] rfl (by (try simp only [List.map_toArray, List.map_cons, List.map_nil]); first | done | rfl | (simp only [List.length_drop, List.length_take]; rfl)) ?_; (with_reducible refine (class_First.calls kj3 a0 a2 t211 _ A11.out).mono ?_); rintro e w' ⟨rfl, ⟨nd, rfl⟩⟩; refine ⟨_, rfl, ?_⟩) | ((with_reducible refine gate_callee (f := 21) rfl ?_); refine goesL_ (some 45) rfl rfl Try.func21 (by kernel_rfl) rfl #[.int .i64 a0, .string (a1 ++ a2)] rfl (by (try simp only [List.map_toArray, List.map_cons, List.map_nil]); first | done | rfl | (simp only [List.length_drop, List.length_take]; rfl)) ?_; (with_reducible refine (class_First.calls kj3 a0 (a1 ++ a2) t212 _ A16.out).mono ?_); rintro e w' ⟨rfl, ⟨nd, rfl⟩⟩; refine ⟨_, rfl, ?_⟩))
              go_ret
              exact ⟨by first | rfl | (simp [errW_none, errW_some] <;> rfl) | (simp only [← hji14]; first | rfl | (simp [errW_none, errW_some] <;> rfl)) | (simp [*, errW_none, errW_some] <;> rfl), by repeat (first | (with_reducible first | exact HB.out | apply below_alloc | apply pw_below_drewN | apply below_drew1) | exact HB.out)⟩
            · rw [if_neg c15] at H
              exact absurd H (by simp)
          · rw [if_neg c13] at H
            have c13b0 : decide (0 ≤ t211) = false := decide_eq_false c13
            clear c13
            by_cases c17 : a1.size + a2.size ≤ 9223372036854775807
            · rw [if_pos c17] at H
              have c17b0 := eq_true c17
              have c17b1 : decide (a1.size + a2.size ≤ 9223372036854775807) = true := decide_eq_true c17
              try have c17b2 : (9223372036854775807 < a1.size + a2.size) = False := eq_false (Nat.not_lt.2 c17)
              try (have c17b3 := c17b2; simp only [ByteArray.size_extract, ByteArray.size_append, Nat.min_self, Nat.sub_zero] at c17b3)
              replace H := Option.bind_eq_some_iff.mp H
              obtain ⟨t213, A180, H⟩ := H
              replace H : (some (t213 == t210)) = some r := H
              have A18 := Aside0.mk A180
              clear A180
              obtain rfl := Option.some.inj H
              go_wp2_with (first | ((with_reducible refine gate_callee (f := 21) rfl ?_); refine goesL_ (some 24) rfl rfl Try.func21 (by kernel_rfl) rfl #[.int .i64 a0, .string a1] rfl (by (try simp only [List.map_toArray, List.map_cons, List.map_nil]); first | done | rfl | (simp only [List.length_drop, List.length_take]; rfl)) ?_; (with_reducible refine (class_First.calls kj3 a0 a1 t210 _ A10.out).mono ?_); rintro e w' ⟨rfl, ⟨nd, rfl⟩⟩; refine ⟨_, rfl, ?_⟩) | ((with_reducible refine gate_callee (f := 21) rfl ?_); refine goesL_ (some 27) rfl rfl Try.func21 (by kernel_rfl) rfl #[.int .i64 a0, .string a2] rfl (by (try simp only [List.map_toArray, List.map_cons, List.map_nil]); first | done | rfl | (simp only [List.length_drop, List.length_take]; rfl)) ?_; (with_reducible refine (class_First.calls kj3 a0 a2 t211 _ A11.out).mono ?_); rintro e w' ⟨rfl, ⟨nd, rfl⟩⟩; refine ⟨_, rfl, ?_⟩) | ((with_reducible refine gate_callee (f := 21) rfl ?_); refine goesL_ (some 45) rfl rfl Try.func21 (by kernel_rfl) rfl #[.int .i64 a0, .string (a1 ++ a2)] rfl (by (try simp only [List.map_toArray, List.map_cons, List.map_nil]); first | done | rfl | (simp only [List.length_drop, List.length_take]; rfl)) ?_; (with_reducible refine (class_First.calls kj3 a0 (a1 ++ a2) t213 _ A18.out).mono ?_); rintro e w' ⟨rfl, ⟨nd, rfl⟩⟩; refine ⟨_, rfl, ?_⟩))
              go_ret
              exact ⟨by first | rfl | (simp [errW_none, errW_some] <;> rfl) | (simp [*, errW_none, errW_some] <;> rfl), by repeat (first | (with_reducible first | exact HB.out | apply below_alloc | apply pw_below_drewN | apply below_drew1) | exact HB.out)⟩
            · rw [if_neg c17] at H
              exact absurd H (by simp)
        · rw [if_neg c12] at H
          have c12b0 : decide (t210 < 0) = false := decide_eq_false c12
          clear c12
          by_cases c19 : a1.size + a2.size ≤ 9223372036854775807
          · rw [if_pos c19] at H
            have c19b0 := eq_true c19
            have c19b1 : decide (a1.size + a2.size ≤ 9223372036854775807) = true := decide_eq_true c19
            try have c19b2 : (9223372036854775807 < a1.size + a2.size) = False := eq_false (Nat.not_lt.2 c19)
            try (have c19b3 := c19b2; simp only [ByteArray.size_extract, ByteArray.size_append, Nat.min_self, Nat.sub_zero] at c19b3)
            replace H := Option.bind_eq_some_iff.mp H
            obtain ⟨t214, A200, H⟩ := H
            replace H : (some (t214 == t210)) = some r := H
            have A20 := Aside0.mk A200
            clear A200
            obtain rfl := Option.some.inj H
            go_wp2_with (first | ((with_reducible refine gate_callee (f := 21) rfl ?_); refine goesL_ (some 24) rfl rfl Try.func21 (by kernel_rfl) rfl #[.int .i64 a0, .string a1] rfl (by (try simp only [List.map_toArray, List.map_cons, List.map_nil]); first | done | rfl | (simp only [List.length_drop, List.length_take]; rfl)) ?_; (with_reducible refine (class_First.calls kj3 a0 a1 t210 _ A10.out).mono ?_); rintro e w' ⟨rfl, ⟨nd, rfl⟩⟩; refine ⟨_, rfl, ?_⟩) | ((with_reducible refine gate_callee (f := 21) rfl ?_); refine goesL_ (some 27) rfl rfl Try.func21 (by kernel_rfl) rfl #[.int .i64 a0, .string a2] rfl (by (try simp only [List.map_toArray, List.map_cons, List.map_nil]); first | done | rfl | (simp only [List.length_drop, List.length_take]; rfl)) ?_; (with_reducible refine (class_First.calls kj3 a0 a2 t211 _ A11.out).mono ?_); rintro e w' ⟨rfl, ⟨nd, rfl⟩⟩; refine ⟨_, rfl, ?_⟩) | ((with_reducible refine gate_callee (f := 21) rfl ?_); refine goesL_ (some 45) rfl rfl Try.func21 (by kernel_rfl) rfl #[.int .i64 a0, .string (a1 ++ a2)] rfl (by (try simp only [List.map_toArray, List.map_cons, List.map_nil]); first | done | rfl | (simp only [List.length_drop, List.length_take]; rfl)) ?_; (with_reducible refine (class_First.calls kj3 a0 (a1 ++ a2) t214 _ A20.out).mono ?_); rintro e w' ⟨rfl, ⟨nd, rfl⟩⟩; refine ⟨_, rfl, ?_⟩))
            go_ret
            exact ⟨by first | rfl | (simp [errW_none, errW_some] <;> rfl) | (simp [*, errW_none, errW_some] <;> rfl), by repeat (first | (with_reducible first | exact HB.out | apply below_alloc | apply pw_below_drewN | apply below_drew1) | exact HB.out)⟩
          · rw [if_neg c19] at H
            exact absurd H (by simp)

/-- THE ONE PURE STATEMENT of groatlaw04_ClassParts: yours. -/
def groatlaw04_ClassParts.Pure : Prop := ∀ (a0 : Int) (a1 : ByteArray) (a2 : ByteArray), (Lit.int .i64 a0).wf = true → a1.size ≤ 140737488351232 → a2.size ≤ 140737488351232 → ∃ k, groatlaw04_ClassParts.f k a0 a1 a2 = some true
theorem groatlaw04_ClassParts.walk (P : groatlaw04_ClassParts.Pure) (a0 : Int) (a1 : ByteArray) (a2 : ByteArray) (w : World) (w0 : (Lit.int .i64 a0).wf = true) (w1 : a1.size ≤ 140737488351232) (w2 : a2.size ≤ 140737488351232) :
    Calls Try.prog 11 #[.int .i64 a0, .string a1, .string a2] w fun e w' => e = .returned (.bool true) ∧ Below w.heap.size w w' := by
  obtain ⟨k, h⟩ := P a0 a1 a2 w0 w1 w2
  refine (groatlaw04_ClassParts.calls k a0 a1 a2 true w h).mono ?_
  rintro e w' ⟨rfl, hd⟩
  exact ⟨rfl, hd⟩

/-! ### class_Is: function 25 -/
def class_Is.f (k : Nat) (a0 : Int) (a1 : Int) : Option (Bool) := (class_sets.f a0).bind fun t215 => ((class_of.f k a1).bind fun t216 => (some ((Go.bits .and .i64 t215 t216) != 0)))
theorem class_Is.mono : ∀ a0 a1 k, LeO (class_Is.f k a0 a1) (class_Is.f (k + 1) a0 a1) := by
  intro a0 a1 k
  unfold class_Is.f
  repeat' first
      | (with_reducible exact class_of.mono _ _)
      | (with_reducible exact LeO.refl _)
      | (with_reducible exact LeO.none _)
      | (with_reducible refine LeO.ite ?_ ?_)
      | (with_reducible refine LeO.bind ?_ (fun _ => ?_))
      | exact class_of.mono _ _
      | exact LeO.none _
      | refine LeO.ite ?_ ?_
      | refine LeO.bind ?_ (fun _ => ?_)
set_option maxHeartbeats 8000000 in
set_option maxRecDepth 100000 in
theorem class_Is.calls (k : Nat) (a0 : Int) (a1 : Int) (r : Bool) (w : World) (h : class_Is.f k a0 a1 = some r) :
    Calls Try.prog 25 #[.int .i64 a0, .int .u8 a1] w fun e w' => e = .returned (.bool r) ∧ Drawn0 w w' := by
  have H : ((class_sets.f a0).bind fun t215 => ((class_of.f k a1).bind fun t216 => (some ((Go.bits .and .i64 t215 t216) != 0)))) = some r := h
  clear h
  replace H := Option.bind_eq_some_iff.mp H
  obtain ⟨t215, A30, H⟩ := H
  replace H : ((class_of.f k a1).bind fun t216 => (some ((Go.bits .and .i64 t215 t216) != 0))) = some r := H
  have A3 := Aside0.mk A30
  clear A30
  replace H := Option.bind_eq_some_iff.mp H
  obtain ⟨t216, A40, H⟩ := H
  replace H : (some ((Go.bits .and .i64 t215 t216) != 0)) = some r := H
  have A4 := Aside0.mk A40
  clear A40
  obtain rfl := Option.some.inj H
  go_enter Try.func25, Try.ntmps25
  go_wp2_with (first | ((with_reducible refine gate_callee (f := 29) rfl ?_); refine goesL_ (some 6) rfl rfl Try.func29 (by kernel_rfl) rfl #[.int .i64 a0] rfl (by (try simp only [List.map_toArray, List.map_cons, List.map_nil]); first | done | rfl | (simp only [List.length_drop, List.length_take]; rfl)) ?_; (with_reducible refine (class_sets.calls a0 t215 _ A3.out).mono ?_); rintro e w' ⟨rfl, ⟨nd, rfl⟩⟩; refine ⟨_, rfl, ?_⟩) | ((with_reducible refine gate_callee (f := 30) rfl ?_); refine goesL_ (some 8) rfl rfl Try.func30 (by kernel_rfl) rfl #[.int .u8 a1] rfl (by (try simp only [List.map_toArray, List.map_cons, List.map_nil]); first | done | rfl | (simp only [List.length_drop, List.length_take]; rfl)) ?_; (with_reducible refine (class_of.calls k a1 t216 _ A4.out).mono ?_); rintro e w' ⟨rfl, ⟨nd, rfl⟩⟩; refine ⟨_, rfl, ?_⟩))
  go_ret
  exact ⟨by first | rfl | (simp; done) | (simp [*]; done), by repeat (first | exact Drawn0.refl _ | apply Drawn0.step)⟩

/-! ### groatlaw04_ClassTells: function 12 -/
def groatlaw04_ClassTells.f (k : Nat) (a0 : Int) (a1 : Int) : Option (Bool) := (groatlaw04_awake.f k).bind fun t217 => (if t217 = true then ((class_Is.f k a0 a1).bind fun t218 => ((groatref04_Is.f k a0 a1).bind fun t219 => (if (t218 == t219) = true then ((class_Known.f a0).bind fun t220 => (if a0 ≥ 1 then (some (t220 == (decide (a0 ≤ 6)))) else (some (t220 == false)))) else (some false)))) else (some false))
theorem groatlaw04_ClassTells.mono : ∀ a0 a1 k, LeO (groatlaw04_ClassTells.f k a0 a1) (groatlaw04_ClassTells.f (k + 1) a0 a1) := by
  intro a0 a1 k
  unfold groatlaw04_ClassTells.f
  repeat' first
      | (with_reducible exact class_Is.mono _ _ _)
      | (with_reducible exact groatlaw04_awake.mono _)
      | (with_reducible exact groatref04_Is.mono _ _ _)
      | (with_reducible exact LeO.refl _)
      | (with_reducible exact LeO.none _)
      | (with_reducible refine LeO.ite ?_ ?_)
      | (with_reducible refine LeO.bind ?_ (fun _ => ?_))
      | exact class_Is.mono _ _ _
      | exact groatlaw04_awake.mono _
      | exact groatref04_Is.mono _ _ _
      | exact LeO.none _
      | refine LeO.ite ?_ ?_
      | refine LeO.bind ?_ (fun _ => ?_)
set_option maxHeartbeats 8000000 in
set_option maxRecDepth 100000 in
theorem groatlaw04_ClassTells.calls (k : Nat) (a0 : Int) (a1 : Int) (r : Bool) (w : World) (h : groatlaw04_ClassTells.f k a0 a1 = some r) :
    Calls Try.prog 12 #[.int .i64 a0, .int .u8 a1] w fun e w' => e = .returned (.bool r) ∧ Drawn0 w w' := by
  have H : ((groatlaw04_awake.f k).bind fun t217 => (if t217 = true then ((class_Is.f k a0 a1).bind fun t218 => ((groatref04_Is.f k a0 a1).bind fun t219 => (if (t218 == t219) = true then ((class_Known.f a0).bind fun t220 => (if a0 ≥ 1 then (some (t220 == (decide (a0 ≤ 6)))) else (some (t220 == false)))) else (some false)))) else (some false))) = some r := h
  clear h
  replace H := Option.bind_eq_some_iff.mp H
  obtain ⟨t217, A30, H⟩ := H
  replace H : (if t217 = true then ((class_Is.f k a0 a1).bind fun t218 => ((groatref04_Is.f k a0 a1).bind fun t219 => (if (t218 == t219) = true then ((class_Known.f a0).bind fun t220 => (if a0 ≥ 1 then (some (t220 == (decide (a0 ≤ 6)))) else (some (t220 == false)))) else (some false)))) else (some false)) = some r := H
  have A3 := Aside0.mk A30
  clear A30
  by_cases c4 : t217 = true
  · subst c4
    have H1 : ((class_Is.f k a0 a1).bind fun t218 => ((groatref04_Is.f k a0 a1).bind fun t219 => (if (t218 == t219) = true then ((class_Known.f a0).bind fun t220 => (if a0 ≥ 1 then (some (t220 == (decide (a0 ≤ 6)))) else (some (t220 == false)))) else (some false)))) = some r := by rw [if_pos rfl] at H; exact H
    clear H
    have H := H1
    clear H1
    replace H := Option.bind_eq_some_iff.mp H
    obtain ⟨t218, A50, H⟩ := H
    replace H : ((groatref04_Is.f k a0 a1).bind fun t219 => (if (t218 == t219) = true then ((class_Known.f a0).bind fun t220 => (if a0 ≥ 1 then (some (t220 == (decide (a0 ≤ 6)))) else (some (t220 == false)))) else (some false))) = some r := H
    have A5 := Aside0.mk A50
    clear A50
    replace H := Option.bind_eq_some_iff.mp H
    obtain ⟨t219, A60, H⟩ := H
    replace H : (if (t218 == t219) = true then ((class_Known.f a0).bind fun t220 => (if a0 ≥ 1 then (some (t220 == (decide (a0 ≤ 6)))) else (some (t220 == false)))) else (some false)) = some r := H
    have A6 := Aside0.mk A60
    clear A60
    by_cases c7 : (t218 == t219) = true
    · rw [if_pos c7] at H
      have c7b0 : (t218 == t219) = true := c7
      (try (have c7b1 : decide (t218 = t219) = true := by simpa using c7))
      (try (have c7b2 : (t218 == t219) = true := by simpa using c7))
      clear c7
      replace H := Option.bind_eq_some_iff.mp H
      obtain ⟨t220, A80, H⟩ := H
      replace H : (if a0 ≥ 1 then (some (t220 == (decide (a0 ≤ 6)))) else (some (t220 == false))) = some r := H
      have A8 := Aside0.mk A80
      clear A80
      by_cases c9 : a0 ≥ 1
      · rw [if_pos c9] at H
        have c9b0 : decide (1 ≤ a0) = true := decide_eq_true c9
        clear c9
        obtain rfl := Option.some.inj H
        go_enter Try.func12, Try.ntmps12
        go_wp2_with (first | ((with_reducible refine gate_callee (f := 20) rfl ?_); refine goesL_ (some 5) rfl rfl Try.func20 (by kernel_rfl) rfl #[] rfl (by (try simp only [List.map_toArray, List.map_cons, List.map_nil]); first | done | rfl | (simp only [List.length_drop, List.length_take]; rfl)) ?_; (with_reducible refine (groatlaw04_awake.calls k  true _ A3.out).mono ?_); rintro e w' ⟨rfl, ⟨nd, rfl⟩⟩; refine ⟨_, rfl, ?_⟩) | (go_at_call 25; (with_reducible refine (class_Is.calls k a0 a1 t218 _ A5.out).mono ?_); rintro e w' ⟨rfl, ⟨nd, rfl⟩⟩) | (go_at_call 26; (with_reducible refine (groatref04_Is.calls k a0 a1 t219 _ A6.out).mono ?_); rintro e w' ⟨rfl, ⟨nd, rfl⟩⟩) | (go_at_call 27; (with_reducible refine (class_Known.calls a0 t220 _ A8.out).mono ?_); rintro e w' ⟨rfl, ⟨nd, rfl⟩⟩))
        go_ret
        exact ⟨by first | rfl | (simp; done) | (simp [*]; done), by repeat (first | exact Drawn0.refl _ | apply Drawn0.step)⟩
      · rw [if_neg c9] at H
        have c9b0 : decide (1 ≤ a0) = false := decide_eq_false c9
        clear c9
        obtain rfl := Option.some.inj H
        go_enter Try.func12, Try.ntmps12
        go_wp2_with (first | ((with_reducible refine gate_callee (f := 20) rfl ?_); refine goesL_ (some 5) rfl rfl Try.func20 (by kernel_rfl) rfl #[] rfl (by (try simp only [List.map_toArray, List.map_cons, List.map_nil]); first | done | rfl | (simp only [List.length_drop, List.length_take]; rfl)) ?_; (with_reducible refine (groatlaw04_awake.calls k  true _ A3.out).mono ?_); rintro e w' ⟨rfl, ⟨nd, rfl⟩⟩; refine ⟨_, rfl, ?_⟩) | (go_at_call 25; (with_reducible refine (class_Is.calls k a0 a1 t218 _ A5.out).mono ?_); rintro e w' ⟨rfl, ⟨nd, rfl⟩⟩) | (go_at_call 26; (with_reducible refine (groatref04_Is.calls k a0 a1 t219 _ A6.out).mono ?_); rintro e w' ⟨rfl, ⟨nd, rfl⟩⟩) | (go_at_call 27; (with_reducible refine (class_Known.calls a0 t220 _ A8.out).mono ?_); rintro e w' ⟨rfl, ⟨nd, rfl⟩⟩))
        go_ret
        exact ⟨by first | rfl | (simp; done) | (simp [*]; done), by repeat (first | exact Drawn0.refl _ | apply Drawn0.step)⟩
    · rw [if_neg c7] at H
      have c7b0 : (t218 == t219) = false := by simpa using c7
      (try (have c7b1 : decide (t218 = t219) = false := by simpa using c7))
      (try (have c7b2 : (t218 == t219) = false := by simpa using c7))
      (try (have c7b3 : ¬ (t218 = t219) := by simpa using c7))
      clear c7
      obtain rfl := Option.some.inj H
      go_enter Try.func12, Try.ntmps12
      go_wp2_with (first | ((with_reducible refine gate_callee (f := 20) rfl ?_); refine goesL_ (some 5) rfl rfl Try.func20 (by kernel_rfl) rfl #[] rfl (by (try simp only [List.map_toArray, List.map_cons, List.map_nil]); first | done | rfl | (simp only [List.length_drop, List.length_take]; rfl)) ?_; (with_reducible refine (groatlaw04_awake.calls k  true _ A3.out).mono ?_); rintro e w' ⟨rfl, ⟨nd, rfl⟩⟩; refine ⟨_, rfl, ?_⟩) | (go_at_call 25; (with_reducible refine (class_Is.calls k a0 a1 t218 _ A5.out).mono ?_); rintro e w' ⟨rfl, ⟨nd, rfl⟩⟩) | (go_at_call 26; (with_reducible refine (groatref04_Is.calls k a0 a1 t219 _ A6.out).mono ?_); rintro e w' ⟨rfl, ⟨nd, rfl⟩⟩))
      go_ret
      exact ⟨by first | rfl | (simp; done) | (simp [*]; done), by repeat (first | exact Drawn0.refl _ | apply Drawn0.step)⟩
  · replace c4 := Bool.eq_false_iff.mpr c4
    subst c4
    have H1 : (some false) = some r := by rw [if_neg (show ¬ (false = true) by decide)] at H; exact H
    clear H
    have H := H1
    clear H1
    obtain rfl := Option.some.inj H
    go_enter Try.func12, Try.ntmps12
    go_wp2_with (first | ((with_reducible refine gate_callee (f := 20) rfl ?_); refine goesL_ (some 5) rfl rfl Try.func20 (by kernel_rfl) rfl #[] rfl (by (try simp only [List.map_toArray, List.map_cons, List.map_nil]); first | done | rfl | (simp only [List.length_drop, List.length_take]; rfl)) ?_; (with_reducible refine (groatlaw04_awake.calls k  false _ A3.out).mono ?_); rintro e w' ⟨rfl, ⟨nd, rfl⟩⟩; refine ⟨_, rfl, ?_⟩))
    go_ret
    exact ⟨by first | rfl | (simp; done) | (simp [*]; done), by repeat (first | exact Drawn0.refl _ | apply Drawn0.step)⟩

/-- THE ONE PURE STATEMENT of groatlaw04_ClassTells: yours. -/
def groatlaw04_ClassTells.Pure : Prop := ∀ (a0 : Int) (a1 : Int), (Lit.int .i64 a0).wf = true → (Lit.int .u8 a1).wf = true → ∃ k, groatlaw04_ClassTells.f k a0 a1 = some true
theorem groatlaw04_ClassTells.walk (P : groatlaw04_ClassTells.Pure) (a0 : Int) (a1 : Int) (w : World) (w0 : (Lit.int .i64 a0).wf = true) (w1 : (Lit.int .u8 a1).wf = true) :
    Calls Try.prog 12 #[.int .i64 a0, .int .u8 a1] w fun e w' => e = .returned (.bool true) ∧ Below w.heap.size w w' := by
  obtain ⟨k, h⟩ := P a0 a1 w0 w1
  refine (groatlaw04_ClassTells.calls k a0 a1 true w h).mono ?_
  rintro e w' ⟨rfl, hd⟩
  exact ⟨rfl, hd.below⟩

end Go.Proofs.Ytjpeldblipfjnaa.P
