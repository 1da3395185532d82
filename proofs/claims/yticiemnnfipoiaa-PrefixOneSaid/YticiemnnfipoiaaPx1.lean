-- written for this claim by wip/pp.py
import Derived.Test.YticiemnnfipoiaaPx0
namespace Go.Proofs.Yticiemnnfipoiaa.P
open Go.RowKit Go.Proofs.YticiemnnfipoiaaW.PrintWords Go.Proofs.YticiemnnfipoiaaW.PrintLast Go.Proofs.YticiemnnfipoiaaW.PrintMore
attribute [local go_sem] max2_int min2_int max_two min_two max_three min_three max_four min_four   -- for this text's walks alone
set_option linter.unusedVariables false
set_option linter.unusedSimpArgs false

/-! ### digits_All: function 26 (by hand) -/
/-- Are all of them digits? -/
def allDig (s : ByteArray) : Bool := (Sp.bl s).all Sp.dig
def digits_All.f (a0 : ByteArray) : Option (Bool) := some (allDig a0)
theorem allDig_take (s : ByteArray) (k : Nat) (hk : k < s.size) (hd : Sp.dig (s[k]'hk) = true) (h : ((Sp.bl s).take k).all Sp.dig = true) : ((Sp.bl s).take (k + 1)).all Sp.dig = true := by
  have e : (Sp.bl s).take (k + 1) = (Sp.bl s).take k ++ [s[k]'hk] := by unfold Sp.bl; rw [List.take_succ_eq_append_getElem (by simpa using hk)]; rfl
  rw [e, List.all_append, h]; simp [hd]
theorem allDig_no (s : ByteArray) (k : Nat) (hk : k < s.size) (hd : Sp.dig (s[k]'hk) = false) : allDig s = false := by
  unfold allDig Sp.bl
  rw [List.all_eq_false]
  exact ⟨s[k]'hk, by show s.data[k] ∈ s.data.toList; simp, by simp [hd]⟩
theorem allDig_end (s : ByteArray) (k : Nat) (hk : ¬ k < s.size) (h : ((Sp.bl s).take k).all Sp.dig = true) : allDig s = true := by
  unfold allDig
  rwa [List.take_of_length_le (by simp [Sp.bl]; omega)] at h
set_option maxHeartbeats 4000000 in
theorem digits_All.calls (a0 : ByteArray) (r : Bool) (w : World) (h : digits_All.f a0 = some r) :
    Calls Try.prog 26 #[.string a0] w fun e w' => e = .returned (.bool r) ∧ Below w.heap.size w w' := by
  have H0 := Aside0.mk (Option.some.inj h)
  clear h
  go_enter Try.func26, Try.ntmps26
  go_wp2
  go_loopw [] (fun wr => ∃ pos : Nat, wr = w.iter a0 pos ∧ Aside0 (((Sp.bl a0).take pos).all Sp.dig = true)) (fun wr => a0.size - wr.iterPos w.heap.size)
  case atStart => exact ⟨0, rfl, ⟨by simp⟩⟩
  case round =>
    obtain ⟨pos, rfl, HT⟩ := hrel
    have hb : Below w.heap.size w (w.iter a0 pos) := (Below.refl _ w).alloc (Nat.le_refl _) _
    by_cases hp : pos < a0.size
    · by_cases hd : Sp.dig (a0[pos]'hp) = true
      · have hd' := hd
        simp only [Sp.dig, Bool.and_eq_true, decide_eq_true_eq] at hd'
        obtain ⟨h48, h57⟩ := hd'
        have hnx := fun ty => run_next_ascii (P := Try.prog) w a0 pos ty hp (by omega)
        have HN := Aside0.mk (allDig_take a0 pos hp hd HT.out)
        have c1 : decide ((((a0[pos]'hp).toNat : Nat) : Int) < 48) = false := decide_eq_false (by omega)
        have c2 : decide ((57 : Int) < (((a0[pos]'hp).toNat : Nat) : Int)) = false := decide_eq_false (by omega)
        clear hd HT
        go_wp2
        go_roundw
        case rel => exact ⟨pos + 1, rfl, HN⟩
        case measure => simp only [World.iterPos_iter]; omega
      · have hdf : Sp.dig (a0[pos]'hp) = false := by simpa using hd
        have HF := Aside0.mk (allDig_no a0 pos hp hdf)
        have hb2 : Below w.heap.size w (w.iter a0 (pos + (Utf8.decode a0 pos).2)) := (Below.refl _ w).alloc (Nat.le_refl _) _
        have hnx := fun ty => run_next_any (P := Try.prog) w a0 pos ty hp
        obtain ⟨v, hv⟩ : ∃ v : Nat, v = (Utf8.decode a0 pos).1 := ⟨_, rfl⟩
        have hor : v < 48 ∨ 57 < v := by
          by_cases ha : (a0[pos]'hp).toNat < 128
          · rw [hv, decode_ascii a0 pos hp ha]
            simp only [Sp.dig, Bool.and_eq_false_iff, decide_eq_false_iff_not] at hdf
            omega
          · have := (decode_high a0 pos hp (by omega)).1
            omega
        rw [← hv] at hnx
        clear hv hd hdf HT
        rcases hor with h1 | h1
        · have c1 : decide ((v : Int) < 48) = true := decide_eq_true (by omega)
          clear h1
          go_wp2
          go_ret
          exact ⟨by have e := H0.out; rw [HF.out] at e; subst e; rfl, hb2⟩
        · have c1 : decide ((v : Int) < 48) = false := decide_eq_false (by omega)
          have c2 : decide ((57 : Int) < (v : Int)) = true := decide_eq_true (by omega)
          clear h1
          go_wp2
          go_ret
          exact ⟨by have e := H0.out; rw [HF.out] at e; subst e; rfl, hb2⟩
    · have hnx := fun ty => run_next_end (P := Try.prog) w a0 pos ty hp
      have HE := Aside0.mk (allDig_end a0 pos hp HT.out)
      clear HT
      go_wp2
      go_ret
      exact ⟨by have e := H0.out; rw [HE.out] at e; subst e; rfl, hb⟩

/-! ### bcd_Put: function 14 -/
mutual
def bcd_Put.j0 : Nat → ByteArray → Bool → Option (ByteArray × Bool)
  | 0, _, _ => none
  | k + 1, x0, x13 => if x13 = true then (some ((⟨#[]⟩ : ByteArray), false)) else (if ((x0.size : Int) % 2) = 0 then (bcd_Put.j1 k x0) else (if 1 + x0.size ≤ 9223372036854775807 then (bcd_Put.j1 k ((⟨#[48]⟩ : ByteArray) ++ x0)) else (none)))
def bcd_Put.j1 : Nat → ByteArray → Option (ByteArray × Bool)
  | 0, _ => none
  | k + 1, x0 => if 0 ≤ (wrap64 ((x0.size : Int) / 2)) then (if (wrap64 ((x0.size : Int) / 2) : Int).toNat ≤ 281474976710656 then (bcd_Put.l0 k x0 (([] : List Int)) 0) else (none)) else (none)
def bcd_Put.l0 : Nat → ByteArray → List Int → Int → Option (ByteArray × Bool)
  | 0, _, _, _ => none
  | k + 1, x0, x4, x5 => if x5 < (x0.size : Int) then (if 0 ≤ x5 then (if 0 ≤ (wrap64 (x5 + 1)) then (if (wrap64 (x5 + 1)) < (x0.size : Int) then (if x4.length < 140737488355328 then (bcd_Put.l0 k x0 (x4 ++ [Go.bits .or .u8 (((((bt x0 x5) - 48) % 256) * 16) % 256) (((bt x0 (wrap64 (x5 + 1))) - 48) % 256)]) (wrap64 (x5 + 2))) else (none)) else (none)) else (none)) else (none)) else (some (strOfNums x4, true))
end
def bcd_Put.f (k : Nat) (a0 : ByteArray) : Option (ByteArray × Bool) := if (a0.size : Int) > 999 then (bcd_Put.j0 k a0 true) else ((digits_All.f a0).bind fun t101 => (bcd_Put.j0 k a0 (!t101)))
theorem bcd_Put.mono_l : ∀ k, (∀ y0 y1, LeO (bcd_Put.j0 k y0 y1) (bcd_Put.j0 (k + 1) y0 y1)) ∧ (∀ y0, LeO (bcd_Put.j1 k y0) (bcd_Put.j1 (k + 1) y0)) ∧ (∀ y0 y1 y2, LeO (bcd_Put.l0 k y0 y1 y2) (bcd_Put.l0 (k + 1) y0 y1 y2))
  | 0 => ⟨fun _ _ r h => by simp [bcd_Put.j0] at h, fun _ r h => by simp [bcd_Put.j1] at h, fun _ _ _ r h => by simp [bcd_Put.l0] at h⟩
  | k + 1 => by
    obtain ⟨ih0, ih1, ih2⟩ := bcd_Put.mono_l k
    refine ⟨?_, ?_, ?_⟩
    · intro y0 y1
      unfold bcd_Put.j0
      repeat' first
      | (with_reducible exact ih0 _ _)
      | (with_reducible exact ih1 _)
      | (with_reducible exact ih2 _ _ _)
      | (with_reducible exact LeO.refl _)
      | (with_reducible exact LeO.none _)
      | (with_reducible refine LeO.ite ?_ ?_)
      | (with_reducible refine LeO.bind ?_ (fun _ => ?_))
      | exact ih0 _ _
      | exact ih1 _
      | exact ih2 _ _ _
      | exact LeO.none _
      | refine LeO.ite ?_ ?_
      | refine LeO.bind ?_ (fun _ => ?_)
    · intro y0
      unfold bcd_Put.j1
      repeat' first
      | (with_reducible exact ih0 _ _)
      | (with_reducible exact ih1 _)
      | (with_reducible exact ih2 _ _ _)
      | (with_reducible exact LeO.refl _)
      | (with_reducible exact LeO.none _)
      | (with_reducible refine LeO.ite ?_ ?_)
      | (with_reducible refine LeO.bind ?_ (fun _ => ?_))
      | exact ih0 _ _
      | exact ih1 _
      | exact ih2 _ _ _
      | exact LeO.none _
      | refine LeO.ite ?_ ?_
      | refine LeO.bind ?_ (fun _ => ?_)
    · intro y0 y1 y2
      unfold bcd_Put.l0
      repeat' first
      | (with_reducible exact ih0 _ _)
      | (with_reducible exact ih1 _)
      | (with_reducible exact ih2 _ _ _)
      | (with_reducible exact LeO.refl _)
      | (with_reducible exact LeO.none _)
      | (with_reducible refine LeO.ite ?_ ?_)
      | (with_reducible refine LeO.bind ?_ (fun _ => ?_))
      | exact ih0 _ _
      | exact ih1 _
      | exact ih2 _ _ _
      | exact LeO.none _
      | refine LeO.ite ?_ ?_
      | refine LeO.bind ?_ (fun _ => ?_)
theorem bcd_Put.mono : ∀ a0 k, LeO (bcd_Put.f k a0) (bcd_Put.f (k + 1) a0) := by
  intro a0 k
  obtain ⟨ih0, ih1, ih2⟩ := bcd_Put.mono_l k
  unfold bcd_Put.f
  repeat' first
      | (with_reducible exact ih0 _ _)
      | (with_reducible exact ih1 _)
      | (with_reducible exact ih2 _ _ _)
      | (with_reducible exact LeO.refl _)
      | (with_reducible exact LeO.none _)
      | (with_reducible refine LeO.ite ?_ ?_)
      | (with_reducible refine LeO.bind ?_ (fun _ => ?_))
      | exact ih0 _ _
      | exact ih1 _
      | exact ih2 _ _ _
      | exact LeO.none _
      | refine LeO.ite ?_ ?_
      | refine LeO.bind ?_ (fun _ => ?_)
def bcd_Put.T9 : Bool × List (List Nat × List Nat) := (true, [([], []), ([], []), ([], []), ([1, 2], [1, 2]), ([3], [3]), ([4], [4]), ([], []), ([], []), ([7], [7]), ([6, 8], [6, 8]), ([9], [9]), ([5, 10], [5, 10]), ([11], [11]), ([0, 12], [0, 12]), ([13, 13, 0, 1, 2, 3, 4, 5, 6, 7, 8, 9, 10, 11, 12, 13], [0, 13])])
def bcd_Put.B9 : List Nat := [0, 0, 0, 6, 14, 30, 0, 0, 128, 448, 960, 2046, 4094, 8191, 16383]
theorem bcd_Put.tab9 : rtab .any (opsOf Try.f14 9) = bcd_Put.T9 := by kernel_rfl
theorem bcd_Put.bits9 : waitsOk bcd_Put.T9.2 bcd_Put.B9 = true := by kernel_rfl
set_option maxHeartbeats 8000000 in
set_option maxRecDepth 100000 in
theorem bcd_Put.calls (k : Nat) (a0 : ByteArray) (r1 : ByteArray) (r2 : Bool) (w : World) (h : bcd_Put.f k a0 = some (r1, r2)) :
    Calls Try.prog 14 #[.string a0] w fun e w' => e = .returned (.tuple #[.string r1, .bool r2]) ∧ Below w.heap.size w w' := by
  have HB := Aside0.mk (Below.refl w.heap.size w)
  have H : (if (a0.size : Int) > 999 then (bcd_Put.j0 k a0 true) else ((digits_All.f a0).bind fun t101 => (bcd_Put.j0 k a0 (!t101)))) = some (r1, r2) := h
  clear h
  have HC2 := Aside0.mk H
  clear H
  go_enter Try.func14, Try.ntmps14
  go_upto_region 1 with (fail)
  go_cut [13] (fun v13 wc => ∃ (kq : Nat) (x13_1 : Bool), v13 = .bool x13_1 ∧ Aside0 (bcd_Put.j0 kq a0 x13_1 = some (r1, r2)) ∧ Aside0 (kq ≤ k) ∧ Aside0 (Below w.heap.size w wc))
  case first =>
    have H := HC2.out
    clear HC2
    by_cases c3 : (a0.size : Int) > 999
    · rw [if_pos c3] at H
      have c3b0 : decide (999 < (a0.size : Int)) = true := decide_eq_true c3
      have c3b1 : decide (999 < a0.size) = true := decide_eq_true (by omega)
      clear c3
      (first | rw [c3b0] | (simp only [i64_w, i32_w]; rw [c3b0]) | skip)
      have H' := Aside0.mk H
      clear H
      go_wp2
      go_meet
      case rel => exact ⟨_, (true), (by first | rfl | (simp; done) | (simp [*]; done)), H', ⟨by first | omega | exact Nat.le_refl _⟩, ⟨by repeat (first | (with_reducible first | exact HB.out | apply below_alloc | apply pw_below_drewN | apply below_drew1) | exact HB.out)⟩⟩
    · rw [if_neg c3] at H
      have c3b0 : decide (999 < (a0.size : Int)) = false := decide_eq_false c3
      have c3b1 : decide (999 < a0.size) = false := decide_eq_false (by omega)
      clear c3
      (first | rw [c3b0] | (simp only [i64_w, i32_w]; rw [c3b0]) | skip)
      replace H := Option.bind_eq_some_iff.mp H
      obtain ⟨t101, A40, H⟩ := H
      replace H : (bcd_Put.j0 k a0 (!t101)) = some (r1, r2) := H
      have A4 := Aside0.mk A40
      clear A40
      have H' := Aside0.mk H
      clear H
      go_wp2_with (first | (go_at_call 26; (with_reducible refine (digits_All.calls a0 t101 _ A4.out).mono ?_); rintro e w5 ⟨rfl, hb⟩; have n0_ := Aside0.mk (below_step (by repeat (first | (with_reducible first | exact HB.out | apply below_alloc | apply pw_below_drewN | apply below_drew1) | exact HB.out)) hb); clear HB; have HB := n0_; clear n0_; (try clear hb); (try clear hb2); (try clear hk); (try clear hi)))
      go_meet
      case rel => exact ⟨_, (!t101), (by first | rfl | (simp; done) | (simp [*]; done)), H', ⟨by first | omega | exact Nat.le_refl _⟩, ⟨by repeat (first | (with_reducible first | exact HB.out | apply below_alloc | apply pw_below_drewN | apply below_drew1) | exact HB.out)⟩⟩
  case rest =>
    clear HC2
    try clear c1
    try clear p2
    try clear c3
    try clear c3b0
    try clear c3b1
    obtain ⟨kq, x13_1, rfl, HA, HJ1, HB⟩ := hcut
    cases kq with
    | zero => exact absurd HA.out (by simp [bcd_Put.j0])
    | succ kj1 =>
      have H := HA.out
      clear HA
      simp only [bcd_Put.j0] at H
      by_cases c6 : x13_1 = true
      · subst c6
        have H1 : (some ((⟨#[]⟩ : ByteArray), false)) = some (r1, r2) := by rw [if_pos rfl] at H; exact H
        clear H
        have H := H1
        clear H1
        simp only [Option.some.injEq, Prod.mk.injEq] at H
        obtain ⟨rfl, rfl⟩ := H
        go_wp2
        go_ret2
        exact ⟨by first | rfl | (simp [errW_none, errW_some] <;> rfl) | (simp [*, errW_none, errW_some] <;> rfl), by repeat (first | (with_reducible first | exact HB.out | apply below_alloc | apply pw_below_drewN | apply below_drew1) | exact HB.out)⟩
      · replace c6 := Bool.eq_false_iff.mpr c6
        subst c6
        have H1 : (if ((a0.size : Int) % 2) = 0 then (bcd_Put.j1 kj1 a0) else (if 1 + a0.size ≤ 9223372036854775807 then (bcd_Put.j1 kj1 ((⟨#[48]⟩ : ByteArray) ++ a0)) else (none))) = some (r1, r2) := by rw [if_neg (show ¬ (false = true) by decide)] at H; exact H
        clear H
        have H := H1
        clear H1
        have HC7 := Aside0.mk H
        clear H
        go_upto_if 17 with (fail)
        go_cut [0] (fun v0 wc => ∃ (kq : Nat) (x0_6 : ByteArray), v0 = .string x0_6 ∧ Aside0 (bcd_Put.j1 kq x0_6 = some (r1, r2)) ∧ Aside0 (kq ≤ kj1) ∧ Aside0 (Below w.heap.size w wc))
        case first =>
          have H := HC7.out
          clear HC7
          by_cases c8 : ((a0.size : Int) % 2) = 0
          · rw [if_pos c8] at H
            have c8b0 : (((a0.size : Int) % 2) == 0) = true := beq_iff_eq.mpr c8
            have c8b1 : (((a0.size : Int) % 2) != 0) = false := bne_eq_false_iff_eq.mpr c8
            clear c8
            (first | rw [c8b0] | (simp only [i64_w, i32_w]; rw [c8b0]) | skip)
            have H' := Aside0.mk H
            clear H
            go_wp2
            go_meet
            case rel => exact ⟨_, (a0), (by first | rfl | (simp; done) | (simp [*]; done)), H', ⟨by have := HJ1.out; first | omega | exact Nat.le_refl _⟩, ⟨by repeat (first | (with_reducible first | exact HB.out | apply below_alloc | apply pw_below_drewN | apply below_drew1) | exact HB.out)⟩⟩
          · rw [if_neg c8] at H
            have c8b0 : (((a0.size : Int) % 2) == 0) = false := beq_eq_false_iff_ne.mpr c8
            have c8b1 : (((a0.size : Int) % 2) != 0) = true := bne_iff_ne.mpr c8
            (first | rw [c8b0] | (simp only [i64_w, i32_w]; rw [c8b0]) | skip)
            by_cases c9 : 1 + a0.size ≤ 9223372036854775807
            · rw [if_pos c9] at H
              have c9b0 := eq_true c9
              have c9b1 : decide (1 + a0.size ≤ 9223372036854775807) = true := decide_eq_true c9
              try have c9b2 : (9223372036854775807 < 1 + a0.size) = False := eq_false (Nat.not_lt.2 c9)
              try (have c9b3 := c9b2; simp only [ByteArray.size_extract, ByteArray.size_append, Nat.min_self, Nat.sub_zero] at c9b3)
              have H' := Aside0.mk H
              clear H
              go_wp2
              go_meet
              case rel => exact ⟨_, ((⟨#[48]⟩ : ByteArray) ++ a0), (by first | rfl | (simp; done) | (simp [*]; done)), H', ⟨by have := HJ1.out; first | omega | exact Nat.le_refl _⟩, ⟨by repeat (first | (with_reducible first | exact HB.out | apply below_alloc | apply pw_below_drewN | apply below_drew1) | exact HB.out)⟩⟩
            · rw [if_neg c9] at H
              exact absurd H (by simp)
        case rest =>
          clear HC7
          try clear c1
          try clear p2
          try clear c3
          try clear c3b0
          try clear c3b1
          try clear c6
          try clear c8
          try clear c8b0
          try clear c8b1
          try clear c9
          try clear c9b0
          try clear c9b1
          try clear c9b2
          try clear p2
          obtain ⟨kq, x0_6, rfl, HA, HJ6, HB⟩ := hcut
          cases kq with
          | zero => exact absurd HA.out (by simp [bcd_Put.j1])
          | succ kj6 =>
            have H := HA.out
            clear HA
            simp only [bcd_Put.j1] at H
            obtain ⟨ji10, hji10⟩ : ∃ j_ : Int, (wrap64 ((x0_6.size : Int) / 2)) = j_ := ⟨_, rfl⟩
            replace H : (if 0 ≤ (ji10) then (if (ji10 : Int).toNat ≤ 281474976710656 then (bcd_Put.l0 kj6 x0_6 (([] : List Int)) 0) else (none)) else (none)) = some (r1, r2) := by first | (rw [hji10] at H; exact H) | (simp only [hji10] at H ⊢; exact H)
            have hji10w : (IntKind.i64.wrap ((x0_6.size : Int) / 2)) = ji10 := (i64_w _).trans hji10
            by_cases c11 : 0 ≤ (ji10)
            · rw [if_pos c11] at H
              have c11b0 := eq_true c11
              have c11b1 : decide (0 ≤ (ji10)) = true := decide_eq_true c11
              clear c11
              by_cases c12 : (ji10 : Int).toNat ≤ 281474976710656
              · rw [if_pos c12] at H
                have c12b0 := eq_true c12
                have c12b1 : decide ((ji10 : Int).toNat ≤ 281474976710656) = true := decide_eq_true c12
                clear c12
                obtain ⟨y102, hy102⟩ : ∃ y_ : List Int, y_ = (([] : List Int)) := ⟨_, rfl⟩
                replace H : (bcd_Put.l0 kj6 x0_6 y102 0) = some (r1, r2) := by first | (rw [hy102]; with_reducible exact H) | (have H2_ := (Option.bind_some _ _).symm.trans H; rw [hy102]; with_reducible exact H2_) | (have H2_ := (Option.bind_some _ _).symm.trans H; with_reducible exact H2_) | with_reducible exact H | (rw [hy102]; exact H) | exact H
                have Ny102 := Aside0.mk hy102
                clear hy102
                have H' := Aside0.mk H
                clear H
                go_wp2_with (first | ((with_reducible refine gate_dst (N := 23) rfl ?_); refine Kd.R_makecap (Kd.int .u8) _ 5 rfl (N := 23) rfl 48 _ _ rfl ji10 rfl rfl Try.underlying48 (.int .u8 0) 1 info5 rfl (by decide) (by omega) 0 (ok := fun _ => True) (okp := fun _ => True) rfl (fun _ hk => hk) trivial (of_decide_eq_true (by first | (with_reducible assumption) | assumption)) (Nat.le_trans (Nat.mul_le_mul_right _ (of_decide_eq_true (by first | (with_reducible assumption) | assumption) : ji10.toNat ≤ 281474976710656)) (by omega)) (Below.refl _ _) (Nat.le_refl _) ?_; intro v103 w13 ho14 hb hg_ hnew_; clear hg_ hnew_; (first | rw [← Ny102.out] at ho14 | (simp only [Int.reduceToNat] at ho14; rw [← Ny102.out] at ho14)); have n0_ := Aside0.mk (Kd.R_lower ho14 (below_size (by repeat (first | (with_reducible first | exact HB.out | apply below_alloc | apply pw_below_drewN | apply below_drew1) | exact HB.out)))); have n1_ := Aside0.mk (below_step (by repeat (first | (with_reducible first | exact HB.out | apply below_alloc | apply pw_below_drewN | apply below_drew1) | exact HB.out)) hb); clear HB; have HO104 := n0_; have HB := n1_; clear n0_ n1_; clear hb ho14))
                go_loopg [4, 5] kj6 (fun kq v4 v5 w' => ∃ (x4_3 : List Int) (x5_3 : Int), v5 = .int .i64 x5_3 ∧ Aside0 (bcd_Put.l0 kq x0_6 x4_3 x5_3 = some (r1, r2)) ∧ Aside0 (kq ≤ kj6) ∧ Aside0 (Kd.R (Kd.int .u8) 5 w' w.heap.size (fun _ => True) v4 x4_3) ∧ Aside0 (Below w.heap.size w w'))
                case atStart => exact ⟨(y102), (0), (by first | rfl | (simp; done) | (simp [*]; done)), H', ⟨Nat.le_refl _⟩, ⟨by (with_reducible repeat (first | apply Kd.R_alloc | apply Kd.R_drewN | apply Kd.R_drew)); exact HO104.out⟩, ⟨by repeat (first | (with_reducible first | exact HB.out | apply below_alloc | apply pw_below_drewN | apply below_drew1) | exact HB.out)⟩⟩
                case round =>
                  clear H'
                  try clear c1
                  try clear p2
                  try clear c3
                  try clear c3b0
                  try clear c3b1
                  try clear c6
                  try clear p6
                  try clear c8
                  try clear c8b0
                  try clear c8b1
                  try clear c9
                  try clear c9b0
                  try clear c9b1
                  try clear c9b2
                  try clear c11
                  try clear c11b0
                  try clear c11b1
                  try clear c12
                  try clear c12b0
                  try clear c12b1
                  try clear c14
                  try clear p2
                  obtain ⟨x4_3, x5_3, rfl, HA, HK3, HO_4, HB⟩ := hrel
                  cases gk with
                  | zero => exact absurd HA.out (by simp [bcd_Put.l0])
                  | succ k3 =>
                    have H := HA.out
                    clear HA
                    simp only [bcd_Put.l0] at H
                    by_cases c15 : x5_3 < (x0_6.size : Int)
                    · rw [if_pos c15] at H
                      have c15b0 : decide (x5_3 < (x0_6.size : Int)) = true := decide_eq_true c15
                      clear c15
                      by_cases c16 : 0 ≤ x5_3
                      · rw [if_pos c16] at H
                        have c16b0 : decide (0 ≤ x5_3) = true := decide_eq_true c16
                        clear c16
                        obtain ⟨ji18, hji18⟩ : ∃ j_ : Int, (wrap64 (x5_3 + 1)) = j_ := ⟨_, rfl⟩
                        replace H : (if 0 ≤ (ji18) then (if (ji18) < (x0_6.size : Int) then (if x4_3.length < 140737488355328 then (bcd_Put.l0 k3 x0_6 (x4_3 ++ [Go.bits .or .u8 (((((bt x0_6 x5_3) - 48) % 256) * 16) % 256) (((bt x0_6 (ji18)) - 48) % 256)]) (wrap64 (x5_3 + 2))) else (none)) else (none)) else (none)) = some (r1, r2) := by first | (rw [hji18] at H; exact H) | (simp only [hji18] at H ⊢; exact H)
                        have hji18w : (IntKind.i64.wrap (x5_3 + 1)) = ji18 := (i64_w _).trans hji18
                        by_cases c19 : 0 ≤ (ji18)
                        · rw [if_pos c19] at H
                          have c19b0 : decide (0 ≤ (ji18)) = true := decide_eq_true c19
                          clear c19
                          by_cases c20 : (ji18) < (x0_6.size : Int)
                          · rw [if_pos c20] at H
                            have c20b0 : decide ((ji18) < (x0_6.size : Int)) = true := decide_eq_true c20
                            clear c20
                            by_cases c22 : x4_3.length < 140737488355328
                            · rw [if_pos c22] at H
                              have LMc22 := Aside0.mk c22
                              clear c22
                              obtain ⟨y105, hy105⟩ : ∃ y_ : List Int, y_ = (x4_3 ++ [Go.bits .or .u8 (((((bt x0_6 x5_3) - 48) % 256) * 16) % 256) (((bt x0_6 (ji18)) - 48) % 256)]) := ⟨_, rfl⟩
                              replace H : (bcd_Put.l0 k3 x0_6 y105 (wrap64 (x5_3 + 2))) = some (r1, r2) := by first | (rw [hy105]; with_reducible exact H) | (have H2_ := (Option.bind_some _ _).symm.trans H; rw [hy105]; with_reducible exact H2_) | (have H2_ := (Option.bind_some _ _).symm.trans H; with_reducible exact H2_) | with_reducible exact H | (rw [hy105]; exact H) | exact H
                              have Ny105 := Aside0.mk hy105
                              clear hy105
                              have H' := Aside0.mk H
                              clear H
                              try go_wp2
                              have n0_ := Aside0.mk (Kd.R_drew HO_4.out)
                              have n1_ := Aside0.mk (below_drew1 HB.out)
                              clear HO_4
                              clear HB
                              have HO_4 := n0_
                              have HB := n1_
                              clear n0_ n1_
                              have p17 : 0 ≤ (x5_3 : Int) := of_decide_eq_true (by first | (with_reducible assumption) | assumption)
                              have q17 : x5_3 < (x0_6.size : Int) := of_decide_eq_true (by first | (with_reducible assumption) | assumption)
                              have hx17 := bt_at x0_6 x5_3
                              replace p17 := eq_true p17
                              replace q17 := eq_true q17
                              have p21 : 0 ≤ ((ji18) : Int) := of_decide_eq_true (by first | (with_reducible assumption) | assumption)
                              have q21 : (ji18) < (x0_6.size : Int) := of_decide_eq_true (by first | (with_reducible assumption) | assumption)
                              have hx21 := bt_at x0_6 (ji18)
                              replace p21 := eq_true p21
                              replace q21 := eq_true q21
                              refine start_ (n := 15) (S := fun w' => True) (ds := []) #[false, false, false, false, false, false, false, false, false, false, false, false, false, false, false] (by kernel_rfl) rfl rfl trivial (fun hHeld => ?_); refine with_tabW bcd_Put.tab9 bcd_Put.bits9 (fun HT_ HW_ => ?_)
                              generalize wr.drew = w23 at HO_4 HB hHeld ⊢
                              refine pure_ (i := 0) (N := some 30) (v := ?_) (a' := ?_) #[true, false, false, false, false, false, false, false, false, false, false, false, false, false, false] rfl rfl (any_of HT_.out (by kernel_rfl)) (fun _ _ _ h => h) (Or.inl ⟨by rfl, ?_⟩) ?_ ?_
                              rotate_left
                              · intro w'
                                first | (go_simp; with_reducible rfl) | (have hu8_ := IntKind.wrap_u8; go_simp; with_reducible rfl)
                              rotate_left
                              · simp only [Act.put, List.setIfInBounds_toArray, List.set_cons_zero, List.set_cons_succ, i64_w, i32_w]
                                rfl
                              refine pure_ (i := 1) (N := some 31) (v := ?_) (a' := ?_) #[true, true, false, false, false, false, false, false, false, false, false, false, false, false, false] rfl rfl (any_of HT_.out (by kernel_rfl)) (fun _ _ _ h => h) (Or.inl ⟨by rfl, ?_⟩) ?_ ?_
                              rotate_left
                              · intro w'
                                first | (go_simp; with_reducible rfl) | (have hu8_ := IntKind.wrap_u8; go_simp; with_reducible rfl)
                              rotate_left
                              · simp only [Act.put, List.setIfInBounds_toArray, List.set_cons_zero, List.set_cons_succ, i64_w, i32_w]
                                rfl
                              refine pure_ (i := 2) (N := some 32) (v := ?_) (a' := ?_) #[true, true, true, false, false, false, false, false, false, false, false, false, false, false, false] rfl rfl (any_of HT_.out (by kernel_rfl)) (fun _ _ _ h => h) (Or.inl ⟨by rfl, ?_⟩) ?_ ?_
                              rotate_left
                              · intro w'
                                first | (go_simp; with_reducible rfl) | (have hu8_ := IntKind.wrap_u8; go_simp; with_reducible rfl)
                              rotate_left
                              · simp only [Act.put, List.setIfInBounds_toArray, List.set_cons_zero, List.set_cons_succ, i64_w, i32_w]
                                rfl
                              refine pure_ (i := 6) (N := some 36) (v := ?_) (a' := ?_) #[true, true, true, false, false, false, true, false, false, false, false, false, false, false, false] rfl rfl (any_of HT_.out (by kernel_rfl)) (fun _ _ _ h => h) (Or.inl ⟨by rfl, ?_⟩) ?_ ?_
                              rotate_left
                              · intro w'
                                first | (go_simp; with_reducible rfl) | (have hu8_ := IntKind.wrap_u8; go_simp; with_reducible rfl)
                              rotate_left
                              · simp only [Act.put, List.setIfInBounds_toArray, List.set_cons_zero, List.set_cons_succ, i64_w, i32_w]
                                rfl
                              refine pure_ (i := 7) (N := some 37) (v := ?_) (a' := ?_) #[true, true, true, false, false, false, true, true, false, false, false, false, false, false, false] rfl rfl (any_of HT_.out (by kernel_rfl)) (fun _ _ _ h => h) (Or.inl ⟨by rfl, ?_⟩) ?_ ?_
                              rotate_left
                              · intro w'
                                first | (go_simp; with_reducible rfl) | (have hu8_ := IntKind.wrap_u8; go_simp; with_reducible rfl)
                              rotate_left
                              · simp only [Act.put, List.setIfInBounds_toArray, List.set_cons_zero, List.set_cons_succ, i64_w, i32_w]
                                rfl
                              refine pure_ (i := 8) (N := some 38) (v := ?_) (a' := ?_) #[true, true, true, false, false, false, true, true, true, false, false, false, false, false, false] rfl rfl (any_of HT_.out (by kernel_rfl)) (fun _ _ _ h => h) (Or.inl ⟨by rfl, ?_⟩) ?_ ?_
                              rotate_left
                              · intro w'
                                first | (go_simp; with_reducible rfl) | (have hu8_ := IntKind.wrap_u8; go_simp; with_reducible rfl)
                              rotate_left
                              · simp only [Act.put, List.setIfInBounds_toArray, List.set_cons_zero, List.set_cons_succ, i64_w, i32_w]
                                rfl
                              refine take_ (i := 3) (N := some 33) (v := ?_) (a' := ?_) #[true, true, true, true, false, false, true, true, true, false, false, false, false, false, false] rfl rfl (take_ofW HT_.out HW_.out (by kernel_rfl)) (fun _ _ _ h => h) (Or.inl ⟨by rfl, ?_⟩) hHeld ?_ ?_
                              rotate_left
                              · intro w' _
                                first | (go_simp; with_reducible rfl) | (have hu8_ := IntKind.wrap_u8; go_simp; with_reducible rfl)
                              rotate_left
                              · simp only [Act.put, List.setIfInBounds_toArray, List.set_cons_zero, List.set_cons_succ, i64_w, i32_w]
                                rfl
                              refine pure_ (i := 4) (N := some 34) (v := ?_) (a' := ?_) #[true, true, true, true, true, false, true, true, true, false, false, false, false, false, false] rfl rfl (any_of HT_.out (by kernel_rfl)) (fun _ _ _ h => h) (Or.inl ⟨by rfl, ?_⟩) ?_ ?_
                              rotate_left
                              · intro w'
                                first | (go_simp; with_reducible rfl) | (have hu8_ := IntKind.wrap_u8; go_simp; with_reducible rfl)
                              rotate_left
                              · simp only [Act.put, List.setIfInBounds_toArray, List.set_cons_zero, List.set_cons_succ, i64_w, i32_w]
                                rfl
                              refine pure_ (i := 5) (N := some 35) (v := ?_) (a' := ?_) #[true, true, true, true, true, true, true, true, true, false, false, false, false, false, false] rfl rfl (any_of HT_.out (by kernel_rfl)) (fun _ _ _ h => h) (Or.inl ⟨by rfl, ?_⟩) ?_ ?_
                              rotate_left
                              · intro w'
                                first | (go_simp; with_reducible rfl) | (have hu8_ := IntKind.wrap_u8; go_simp; with_reducible rfl)
                              rotate_left
                              · simp only [Act.put, List.setIfInBounds_toArray, List.set_cons_zero, List.set_cons_succ, i64_w, i32_w]
                                rfl
                              refine take_ (i := 9) (N := some 39) (v := ?_) (a' := ?_) #[true, true, true, true, true, true, true, true, true, true, false, false, false, false, false] rfl rfl (take_ofW HT_.out HW_.out (by kernel_rfl)) (fun _ _ _ h => h) (Or.inl ⟨by rfl, ?_⟩) hHeld ?_ ?_
                              rotate_left
                              · intro w' _
                                first | (go_simp; with_reducible rfl) | (have hu8_ := IntKind.wrap_u8; go_simp; with_reducible rfl)
                              rotate_left
                              · simp only [Act.put, List.setIfInBounds_toArray, List.set_cons_zero, List.set_cons_succ, i64_w, i32_w]
                                rfl
                              refine pure_ (i := 10) (N := some 40) (v := ?_) (a' := ?_) #[true, true, true, true, true, true, true, true, true, true, true, false, false, false, false] rfl rfl (any_of HT_.out (by kernel_rfl)) (fun _ _ _ h => h) (Or.inl ⟨by rfl, ?_⟩) ?_ ?_
                              rotate_left
                              · intro w'
                                first | (go_simp; with_reducible rfl) | (have hu8_ := IntKind.wrap_u8; go_simp; with_reducible rfl)
                              rotate_left
                              · simp only [Act.put, List.setIfInBounds_toArray, List.set_cons_zero, List.set_cons_succ, i64_w, i32_w]
                                rfl
                              refine pure_ (i := 11) (N := some 41) (v := ?_) (a' := ?_) #[true, true, true, true, true, true, true, true, true, true, true, true, false, false, false] rfl rfl (any_of HT_.out (by kernel_rfl)) (fun _ _ _ h => h) (Or.inl ⟨by rfl, ?_⟩) ?_ ?_
                              rotate_left
                              · intro w'
                                first | (go_simp; with_reducible rfl) | (have hu8_ := IntKind.wrap_u8; go_simp; with_reducible rfl)
                              rotate_left
                              · simp only [Act.put, List.setIfInBounds_toArray, List.set_cons_zero, List.set_cons_succ, i64_w, i32_w]
                                rfl
                              refine one_ (i := 12) (N := some 42) #[true, true, true, true, true, true, true, true, true, true, true, true, true, false, false] rfl rfl (one_of HT_.out (by kernel_rfl)) (by decide) (fun K hK => ?_)
                              refine value_ (w1 := ?_) (v := ?_) (by rfl) rfl ?_ ?_
                              rotate_left 2
                              · go_simp
                                constructor
                                · rfl
                                · rfl
                              refine hK.out _ _ trivial (fun hHeld => ?_)
                              clear hK K
                              refine norm_ (a' := ?_) ?_ ?_
                              rotate_left
                              · show Act.put _ (some 42) _ = _
                                simp only [Act.put, List.setIfInBounds_toArray, List.set_cons_zero, List.set_cons_succ, i64_w, i32_w]
                                rfl
                              refine one_ (i := 13) (N := some 43) #[true, true, true, true, true, true, true, true, true, true, true, true, true, true, false] rfl rfl (one_of HT_.out (by kernel_rfl)) (by decide) (fun K hK => ?_)
                              refine Kd.R_append_step (Kd.int .u8) (w0 := w) w.heap.size (by rfl) (.tmp 30) (.tmp 42) 48 5 (.int .u8 0) 1 rfl Try.underlying48 info5 rfl (by decide) (by omega) u4 x4_3 (Go.bits .or .u8 (((((bt x0_6 x5_3) - 48) % 256) * 16) % 256) (((bt x0_6 (ji18)) - 48) % 256)) [.int .u8 (Go.bits .or .u8 (((((bt x0_6 x5_3) - 48) % 256) * 16) % 256) (((bt x0_6 (ji18)) - 48) % 256))] (fun _ => True) (fun _ => False) rfl rfl ?aP (fun _ hk => hk.elim) ?aF ?aO ?aB ?aS ?aL ?_
                              (case aP => exact rfl)
                              (case aB => exact (by repeat (first | (with_reducible first | exact HB.out | apply below_alloc | apply pw_below_drewN | apply below_drew1) | exact HB.out)))
                              (case aF => exact (fun _ _ => trivial))
                              (case aO => exact (by (with_reducible repeat (first | apply Kd.R_alloc | apply Kd.R_drewN | apply Kd.R_drew)); exact HO_4.out))
                              (case aS => exact (below_size (by repeat (first | (with_reducible first | exact HB.out | apply below_alloc | apply pw_below_drewN | apply below_drew1) | exact HB.out))))
                              (case aL => have := LMc22.out; omega)
                              intro v106 w24 ho hb hg hat
                              rw [← Ny105.out] at ho
                              have n0_ := Aside0.mk (hb)
                              have n1_ := Aside0.mk (ho)
                              clear HB
                              clear HO_4
                              have HB := n0_
                              have HO107 := n1_
                              clear n0_ n1_
                              clear ho hb hg hat
                              refine hK.out _ _ trivial (fun hHeld => ?_)
                              clear hK K
                              refine norm_ (a' := ?_) ?_ ?_
                              rotate_left
                              · show Act.put _ (some 43) _ = _
                                simp only [Act.put, List.setIfInBounds_toArray, List.set_cons_zero, List.set_cons_succ, i64_w, i32_w]
                                rfl
                              refine pure_ (i := 14) (N := some 4) (v := ?_) (a' := ?_) #[true, true, true, true, true, true, true, true, true, true, true, true, true, true, true] rfl rfl (any_of HT_.out (by kernel_rfl)) (fun _ _ _ h => h) (Or.inl ⟨by rfl, ?_⟩) ?_ ?_
                              rotate_left
                              · intro w'
                                first | (go_simp; with_reducible rfl) | (have hu8_ := IntKind.wrap_u8; go_simp; with_reducible rfl)
                              rotate_left
                              · simp only [Act.put, List.setIfInBounds_toArray, List.set_cons_zero, List.set_cons_succ, i64_w, i32_w]
                                rfl
                              refine done_ (done_of HT_.out (by kernel_rfl)) ?_
                              try go_wp2
                              go_roundg k3
                              case measure => have := HJ1.out; have := HJ6.out; have := HK3.out; omega
                              case rel => exact ⟨(y105), (wrap64 (x5_3 + 2)), (by first | rfl | (simp; done) | (simp [*]; done)), H', ⟨by have := HJ1.out; have := HJ6.out; have := HK3.out; omega⟩, ⟨by (with_reducible repeat (first | apply Kd.R_alloc | apply Kd.R_drewN | apply Kd.R_drew)); exact HO107.out⟩, ⟨by repeat (first | (with_reducible first | exact HB.out | apply below_alloc | apply pw_below_drewN | apply below_drew1) | exact HB.out)⟩⟩
                            · rw [if_neg c22] at H
                              exact absurd H (by simp)
                          · rw [if_neg c20] at H
                            exact absurd H (by simp)
                        · rw [if_neg c19] at H
                          exact absurd H (by simp)
                      · rw [if_neg c16] at H
                        exact absurd H (by simp)
                    · rw [if_neg c15] at H
                      have c15b0 : decide (x5_3 < (x0_6.size : Int)) = false := decide_eq_false c15
                      clear c15
                      simp only [Option.some.injEq, Prod.mk.injEq] at H
                      obtain ⟨rfl, rfl⟩ := H
                      have hcv25 := own_string (P := Try.prog) Try.underlying48 Try.underlying5 Try.underlying9 (Kd.own_of_R HO_4.out)
                      go_wp2
                      go_ret2
                      exact ⟨by first | rfl | (simp [errW_none, errW_some] <;> rfl) | (simp only [← hji10]; first | rfl | (simp [errW_none, errW_some] <;> rfl)) | (simp [*, errW_none, errW_some] <;> rfl), by repeat (first | (with_reducible first | exact HB.out | apply below_alloc | apply pw_below_drewN | apply below_drew1) | exact HB.out)⟩
              · rw [if_neg c12] at H
                exact absurd H (by simp)
            · rw [if_neg c11] at H
              exact absurd H (by simp)

/-! ### bcd_Size: function 19 -/
def bcd_Size.f (a0 : Int) : Option (Int) := if a0 < 1 then (some 0) else (some (wrap64 ((wrap64 (Int.tdiv a0 2)) + (Int.tmod a0 2))))
set_option maxHeartbeats 8000000 in
set_option maxRecDepth 100000 in
theorem bcd_Size.calls (a0 : Int) (r : Int) (w : World) (h : bcd_Size.f a0 = some r) :
    Calls Try.prog 19 #[.int .i64 a0] w fun e w' => e = .returned (.int .i64 r) ∧ Drawn0 w w' := by
  have H : (if a0 < 1 then (some 0) else (some (wrap64 ((wrap64 (Int.tdiv a0 2)) + (Int.tmod a0 2))))) = some r := h
  clear h
  by_cases c2 : a0 < 1
  · rw [if_pos c2] at H
    have c2b0 : decide (a0 < 1) = true := decide_eq_true c2
    clear c2
    obtain rfl := Option.some.inj H
    go_enter Try.func19, Try.ntmps19
    go_wp2
    go_ret
    exact ⟨by first | rfl | (simp; done) | (simp [*]; done), by repeat (first | exact Drawn0.refl _ | apply Drawn0.step)⟩
  · rw [if_neg c2] at H
    have c2b0 : decide (a0 < 1) = false := decide_eq_false c2
    clear c2
    obtain rfl := Option.some.inj H
    go_enter Try.func19, Try.ntmps19
    go_wp2
    go_ret
    exact ⟨by first | rfl | (simp; done) | (simp [*]; done), by repeat (first | exact Drawn0.refl _ | apply Drawn0.step)⟩

end Go.Proofs.Yticiemnnfipoiaa.P
