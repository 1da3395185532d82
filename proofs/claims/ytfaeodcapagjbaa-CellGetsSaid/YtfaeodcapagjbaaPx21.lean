-- written for this claim by wip/pp.py
import Derived.Test.YtfaeodcapagjbaaPx0
import Derived.Test.YtfaeodcapagjbaaPx4
import Derived.Test.YtfaeodcapagjbaaPx12
import Derived.Test.YtfaeodcapagjbaaPx20
namespace Go.Proofs.Ytfaeodcapagjbaa.P
open Go.RowKit Go.Proofs.YtfaeodcapagjbaaW.PrintWords Go.Proofs.YtfaeodcapagjbaaW.PrintLast Go.Proofs.YtfaeodcapagjbaaW.PrintMore
attribute [local go_sem] max2_int min2_int max_two min_two max_three min_three max_four min_four   -- for this text's walks alone
set_option linter.unusedVariables false
set_option linter.unusedSimpArgs false

/-! ### groatref12_Get: function 24 -/
mutual
def groatref12_Get.j0 : Nat → Int → ByteArray → Int → Bool → Int → Int → Int → Int → Int → Option (ByteArray × Int × Int)
 | 0, _, _, _, _, _, _, _, _, _ => none
 | k + 1, x0, x2, x3, x44, x375000, x375001, x375002, x375003, x375004 => if x44 = true then (some ((⟨#[]⟩ : ByteArray), 0, 1)) else (if x375002 = 1 then (groatref12_Get.j1 k x0 x2 x3 x375004 x375000 x375001 x375002 x375003 x375004) else ((groatref07_Get.f k x0 x375002 x2 x3).bind fun bt377 => (if bt377.2.2 = 0 then (if bt377.1 < x375003 then (some ((⟨#[]⟩ : ByteArray), 0, 5)) else (if bt377.1 > x375004 then (some ((⟨#[]⟩ : ByteArray), 0, 5)) else (groatref12_Get.j1 k x0 x2 bt377.2.1 bt377.1 x375000 x375001 x375002 x375003 x375004))) else (some ((⟨#[]⟩ : ByteArray), 0, bt377.2.2)))))
def groatref12_Get.j1 : Nat → Int → ByteArray → Int → Int → Int → Int → Int → Int → Int → Option (ByteArray × Int × Int)
 | 0, _, _, _, _, _, _, _, _, _ => none
 | k + 1, x0, x2, x3, x11, x375000, x375001, x375002, x375003, x375004 => if x0 = 2 then (groatref12_Get.j2 k x0 x2 x3 x11 x11 (x375001 == 1) x375000 x375001 x375002 x375003 x375004) else (groatref12_Get.j2 k x0 x2 x3 x11 x11 false x375000 x375001 x375002 x375003 x375004)
def groatref12_Get.j2 : Nat → Int → ByteArray → Int → Int → Int → Bool → Int → Int → Int → Int → Int → Option (ByteArray × Int × Int)
 | 0, _, _, _, _, _, _, _, _, _, _, _ => none
 | k + 1, x0, x2, x3, x11, x15, x82, x375000, x375001, x375002, x375003, x375004 => if x82 = true then (groatref12_Get.j3 k x0 x2 x3 x11 (wrap64 (Int.tdiv (wrap64 (x11 + 1)) 2)) x375000 x375001 x375002 x375003 x375004) else (groatref12_Get.j3 k x0 x2 x3 x11 x15 x375000 x375001 x375002 x375003 x375004)
def groatref12_Get.j3 : Nat → Int → ByteArray → Int → Int → Int → Int → Int → Int → Int → Int → Option (ByteArray × Int × Int)
 | 0, _, _, _, _, _, _, _, _, _, _ => none
 | k + 1, x0, x2, x3, x11, x15, x375000, x375001, x375002, x375003, x375004 => if x0 = 1 then (groatref12_Get.j4 k x0 x2 x3 x11 x15 (decide (x375001 ≥ 5)) x375000 x375001 x375002 x375003 x375004) else (groatref12_Get.j4 k x0 x2 x3 x11 x15 false x375000 x375001 x375002 x375003 x375004)
def groatref12_Get.j4 : Nat → Int → ByteArray → Int → Int → Int → Bool → Int → Int → Int → Int → Int → Option (ByteArray × Int × Int)
 | 0, _, _, _, _, _, _, _, _, _, _, _ => none
 | k + 1, x0, x2, x3, x11, x15, x92, x375000, x375001, x375002, x375003, x375004 => if x92 = true then (groatref12_Get.j5 k x0 x2 x3 x11 (wrap64 (x11 + x11)) x375000 x375001 x375002 x375003 x375004) else (groatref12_Get.j5 k x0 x2 x3 x11 x15 x375000 x375001 x375002 x375003 x375004)
def groatref12_Get.j5 : Nat → Int → ByteArray → Int → Int → Int → Int → Int → Int → Int → Int → Option (ByteArray × Int × Int)
 | 0, _, _, _, _, _, _, _, _, _, _ => none
 | k + 1, x0, x2, x3, x11, x15, x375000, x375001, x375002, x375003, x375004 => if (wrap64 ((x2.size : Int) - x3)) < x15 then (some ((⟨#[]⟩ : ByteArray), 0, 2)) else (if 0 ≤ x3 then (if x3 ≤ (wrap64 (x3 + x15)) then (if (wrap64 (x3 + x15)) ≤ (x2.size : Int) then (if x0 = 2 then (groatref12_Get.j6 k x0 x3 x11 x15 (x2.extract (x3 : Int).toNat ((wrap64 (x3 + x15)) : Int).toNat) (x375001 == 1) x375000 x375001 x375002 x375003 x375004) else (groatref12_Get.j6 k x0 x3 x11 x15 (x2.extract (x3 : Int).toNat ((wrap64 (x3 + x15)) : Int).toNat) false x375000 x375001 x375002 x375003 x375004)) else (none)) else (none)) else (none))
def groatref12_Get.j6 : Nat → Int → Int → Int → Int → ByteArray → Bool → Int → Int → Int → Int → Int → Option (ByteArray × Int × Int)
 | 0, _, _, _, _, _, _, _, _, _, _, _ => none
 | k + 1, x0, x3, x11, x15, x16, x114, x375000, x375001, x375002, x375003, x375004 => if x114 = true then ((groatref03_Get.f k x16 x11).bind fun bt380 => (if bt380.2.1 = 0 then (groatref12_Get.j7 k x0 x3 x15 bt380.1 x375000 x375001 x375002 x375003 x375004) else (some ((⟨#[]⟩ : ByteArray), 0, bt380.2.1)))) else (groatref12_Get.j7 k x0 x3 x15 x16 x375000 x375001 x375002 x375003 x375004)
def groatref12_Get.j7 : Nat → Int → Int → Int → ByteArray → Int → Int → Int → Int → Int → Option (ByteArray × Int × Int)
 | 0, _, _, _, _, _, _, _, _, _ => none
 | k + 1, x0, x3, x15, x16, x375000, x375001, x375002, x375003, x375004 => if x0 = 1 then (groatref12_Get.j8 k x3 x15 x16 (decide (x375001 ≥ 5)) x375000 x375001 x375002 x375003 x375004) else (groatref12_Get.j8 k x3 x15 x16 false x375000 x375001 x375002 x375003 x375004)
def groatref12_Get.j8 : Nat → Int → Int → ByteArray → Bool → Int → Int → Int → Int → Int → Option (ByteArray × Int × Int)
 | 0, _, _, _, _, _, _, _, _, _ => none
 | k + 1, x3, x15, x16, x132, x375000, x375001, x375002, x375003, x375004 => if x132 = true then ((groatref02_Get.f k x16).bind fun bt383 => (if bt383.2.2 = true then ((groatref11_Value.f k x375000 x375001 x375002 x375003 x375004 bt383.1).bind fun t386 => (if t386 = 0 then (some (bt383.1, wrap64 (x3 + x15), 0)) else (some ((⟨#[]⟩ : ByteArray), 0, t386)))) else (some ((⟨#[]⟩ : ByteArray), 0, 3)))) else ((groatref11_Value.f k x375000 x375001 x375002 x375003 x375004 x16).bind fun t387 => (if t387 = 0 then (some (x16, wrap64 (x3 + x15), 0)) else (some ((⟨#[]⟩ : ByteArray), 0, t387))))
end
def groatref12_Get.f (k : Nat) (a0 : Int) (a1_0 : Int) (a1_1 : Int) (a1_2 : Int) (a1_3 : Int) (a1_4 : Int) (a2 : ByteArray) (a3 : Int) : Option (ByteArray × Int × Int) := if a0 = 1 then ((groatref11_Check.f k a1_0 a1_1 a1_2 a1_3 a1_4).bind fun t375 => (if t375 = 0 then (if a3 < 0 then (groatref12_Get.j0 k a0 a2 a3 true a1_0 a1_1 a1_2 a1_3 a1_4) else (groatref12_Get.j0 k a0 a2 a3 (decide (a3 > (a2.size : Int))) a1_0 a1_1 a1_2 a1_3 a1_4)) else (groatref12_Get.j0 k a0 a2 a3 true a1_0 a1_1 a1_2 a1_3 a1_4))) else (if a0 = 2 then ((groatref11_Check.f k a1_0 a1_1 a1_2 a1_3 a1_4).bind fun t376 => (if t376 = 0 then (if a3 < 0 then (groatref12_Get.j0 k a0 a2 a3 true a1_0 a1_1 a1_2 a1_3 a1_4) else (groatref12_Get.j0 k a0 a2 a3 (decide (a3 > (a2.size : Int))) a1_0 a1_1 a1_2 a1_3 a1_4)) else (groatref12_Get.j0 k a0 a2 a3 true a1_0 a1_1 a1_2 a1_3 a1_4))) else (groatref12_Get.j0 k a0 a2 a3 true a1_0 a1_1 a1_2 a1_3 a1_4))
theorem groatref12_Get.mono_l : ∀ k, (∀ y0 y1 y2 y3 y4 y5 y6 y7 y8, LeO (groatref12_Get.j0 k y0 y1 y2 y3 y4 y5 y6 y7 y8) (groatref12_Get.j0 (k + 1) y0 y1 y2 y3 y4 y5 y6 y7 y8)) ∧ (∀ y0 y1 y2 y3 y4 y5 y6 y7 y8, LeO (groatref12_Get.j1 k y0 y1 y2 y3 y4 y5 y6 y7 y8) (groatref12_Get.j1 (k + 1) y0 y1 y2 y3 y4 y5 y6 y7 y8)) ∧ (∀ y0 y1 y2 y3 y4 y5 y6 y7 y8 y9 y10, LeO (groatref12_Get.j2 k y0 y1 y2 y3 y4 y5 y6 y7 y8 y9 y10) (groatref12_Get.j2 (k + 1) y0 y1 y2 y3 y4 y5 y6 y7 y8 y9 y10)) ∧ (∀ y0 y1 y2 y3 y4 y5 y6 y7 y8 y9, LeO (groatref12_Get.j3 k y0 y1 y2 y3 y4 y5 y6 y7 y8 y9) (groatref12_Get.j3 (k + 1) y0 y1 y2 y3 y4 y5 y6 y7 y8 y9)) ∧ (∀ y0 y1 y2 y3 y4 y5 y6 y7 y8 y9 y10, LeO (groatref12_Get.j4 k y0 y1 y2 y3 y4 y5 y6 y7 y8 y9 y10) (groatref12_Get.j4 (k + 1) y0 y1 y2 y3 y4 y5 y6 y7 y8 y9 y10)) ∧ (∀ y0 y1 y2 y3 y4 y5 y6 y7 y8 y9, LeO (groatref12_Get.j5 k y0 y1 y2 y3 y4 y5 y6 y7 y8 y9) (groatref12_Get.j5 (k + 1) y0 y1 y2 y3 y4 y5 y6 y7 y8 y9)) ∧ (∀ y0 y1 y2 y3 y4 y5 y6 y7 y8 y9 y10, LeO (groatref12_Get.j6 k y0 y1 y2 y3 y4 y5 y6 y7 y8 y9 y10) (groatref12_Get.j6 (k + 1) y0 y1 y2 y3 y4 y5 y6 y7 y8 y9 y10)) ∧ (∀ y0 y1 y2 y3 y4 y5 y6 y7 y8, LeO (groatref12_Get.j7 k y0 y1 y2 y3 y4 y5 y6 y7 y8) (groatref12_Get.j7 (k + 1) y0 y1 y2 y3 y4 y5 y6 y7 y8)) ∧ (∀ y0 y1 y2 y3 y4 y5 y6 y7 y8, LeO (groatref12_Get.j8 k y0 y1 y2 y3 y4 y5 y6 y7 y8) (groatref12_Get.j8 (k + 1) y0 y1 y2 y3 y4 y5 y6 y7 y8))
 | 0 => ⟨fun _ _ _ _ _ _ _ _ _ r h => by simp [groatref12_Get.j0] at h, fun _ _ _ _ _ _ _ _ _ r h => by simp [groatref12_Get.j1] at h, fun _ _ _ _ _ _ _ _ _ _ _ r h => by simp [groatref12_Get.j2] at h, fun _ _ _ _ _ _ _ _ _ _ r h => by simp [groatref12_Get.j3] at h, fun _ _ _ _ _ _ _ _ _ _ _ r h => by simp [groatref12_Get.j4] at h, fun _ _ _ _ _ _ _ _ _ _ r h => by simp [groatref12_Get.j5] at h, fun _ _ _ _ _ _ _ _ _ _ _ r h => by simp [groatref12_Get.j6] at h, fun _ _ _ _ _ _ _ _ _ r h => by simp [groatref12_Get.j7] at h, fun _ _ _ _ _ _ _ _ _ r h => by simp [groatref12_Get.j8] at h⟩
 | k + 1 => by
  obtain ⟨ih0, ih1, ih2, ih3, ih4, ih5, ih6, ih7, ih8⟩ := groatref12_Get.mono_l k
  refine ⟨?_, ?_, ?_, ?_, ?_, ?_, ?_, ?_, ?_⟩
  ·intro y0 y1 y2 y3 y4 y5 y6 y7 y8
   unfold groatref12_Get.j0
   repeat' first
   | (with_reducible exact ih0 _ _ _ _ _ _ _ _ _)
   | (with_reducible exact ih1 _ _ _ _ _ _ _ _ _)
   | (with_reducible exact ih2 _ _ _ _ _ _ _ _ _ _ _)
   | (with_reducible exact ih3 _ _ _ _ _ _ _ _ _ _)
   | (with_reducible exact ih4 _ _ _ _ _ _ _ _ _ _ _)
   | (with_reducible exact ih5 _ _ _ _ _ _ _ _ _ _)
   | (with_reducible exact ih6 _ _ _ _ _ _ _ _ _ _ _)
   | (with_reducible exact ih7 _ _ _ _ _ _ _ _ _)
   | (with_reducible exact ih8 _ _ _ _ _ _ _ _ _)
   | (with_reducible exact groatref02_Get.mono _ _)
   | (with_reducible exact groatref03_Get.mono _ _ _)
   | (with_reducible exact groatref07_Get.mono _ _ _ _ _)
   | (with_reducible exact groatref11_Check.mono _ _ _ _ _ _)
   | (with_reducible exact groatref11_Value.mono _ _ _ _ _ _ _)
   | (with_reducible exact LeO.refl _)
   | (with_reducible exact LeO.none _)
   | (with_reducible refine LeO.ite ?_ ?_)
   | (with_reducible refine LeO.bind ?_ (fun _ => ?_))
   | exact ih0 _ _ _ _ _ _ _ _ _
   | exact ih1 _ _ _ _ _ _ _ _ _
   | exact ih2 _ _ _ _ _ _ _ _ _ _ _
   | exact ih3 _ _ _ _ _ _ _ _ _ _
   | exact ih4 _ _ _ _ _ _ _ _ _ _ _
   | exact ih5 _ _ _ _ _ _ _ _ _ _
   | exact ih6 _ _ _ _ _ _ _ _ _ _ _
   | exact ih7 _ _ _ _ _ _ _ _ _
   | exact ih8 _ _ _ _ _ _ _ _ _
   | exact groatref02_Get.mono _ _
   | exact groatref03_Get.mono _ _ _
   | exact groatref07_Get.mono _ _ _ _ _
   | exact groatref11_Check.mono _ _ _ _ _ _
   | exact groatref11_Value.mono _ _ _ _ _ _ _
   | exact LeO.none _
   | refine LeO.ite ?_ ?_
   | refine LeO.bind ?_ (fun _ => ?_)
  ·intro y0 y1 y2 y3 y4 y5 y6 y7 y8
   unfold groatref12_Get.j1
   repeat' first
   | (with_reducible exact ih0 _ _ _ _ _ _ _ _ _)
   | (with_reducible exact ih1 _ _ _ _ _ _ _ _ _)
   | (with_reducible exact ih2 _ _ _ _ _ _ _ _ _ _ _)
   | (with_reducible exact ih3 _ _ _ _ _ _ _ _ _ _)
   | (with_reducible exact ih4 _ _ _ _ _ _ _ _ _ _ _)
   | (with_reducible exact ih5 _ _ _ _ _ _ _ _ _ _)
   | (with_reducible exact ih6 _ _ _ _ _ _ _ _ _ _ _)
   | (with_reducible exact ih7 _ _ _ _ _ _ _ _ _)
   | (with_reducible exact ih8 _ _ _ _ _ _ _ _ _)
   | (with_reducible exact groatref02_Get.mono _ _)
   | (with_reducible exact groatref03_Get.mono _ _ _)
   | (with_reducible exact groatref07_Get.mono _ _ _ _ _)
   | (with_reducible exact groatref11_Check.mono _ _ _ _ _ _)
   | (with_reducible exact groatref11_Value.mono _ _ _ _ _ _ _)
   | (with_reducible exact LeO.refl _)
   | (with_reducible exact LeO.none _)
   | (with_reducible refine LeO.ite ?_ ?_)
   | (with_reducible refine LeO.bind ?_ (fun _ => ?_))
   | exact ih0 _ _ _ _ _ _ _ _ _
   | exact ih1 _ _ _ _ _ _ _ _ _
   | exact ih2 _ _ _ _ _ _ _ _ _ _ _
   | exact ih3 _ _ _ _ _ _ _ _ _ _
   | exact ih4 _ _ _ _ _ _ _ _ _ _ _
   | exact ih5 _ _ _ _ _ _ _ _ _ _
   | exact ih6 _ _ _ _ _ _ _ _ _ _ _
   | exact ih7 _ _ _ _ _ _ _ _ _
   | exact ih8 _ _ _ _ _ _ _ _ _
   | exact groatref02_Get.mono _ _
   | exact groatref03_Get.mono _ _ _
   | exact groatref07_Get.mono _ _ _ _ _
   | exact groatref11_Check.mono _ _ _ _ _ _
   | exact groatref11_Value.mono _ _ _ _ _ _ _
   | exact LeO.none _
   | refine LeO.ite ?_ ?_
   | refine LeO.bind ?_ (fun _ => ?_)
  ·intro y0 y1 y2 y3 y4 y5 y6 y7 y8 y9 y10
   unfold groatref12_Get.j2
   repeat' first
   | (with_reducible exact ih0 _ _ _ _ _ _ _ _ _)
   | (with_reducible exact ih1 _ _ _ _ _ _ _ _ _)
   | (with_reducible exact ih2 _ _ _ _ _ _ _ _ _ _ _)
   | (with_reducible exact ih3 _ _ _ _ _ _ _ _ _ _)
   | (with_reducible exact ih4 _ _ _ _ _ _ _ _ _ _ _)
   | (with_reducible exact ih5 _ _ _ _ _ _ _ _ _ _)
   | (with_reducible exact ih6 _ _ _ _ _ _ _ _ _ _ _)
   | (with_reducible exact ih7 _ _ _ _ _ _ _ _ _)
   | (with_reducible exact ih8 _ _ _ _ _ _ _ _ _)
   | (with_reducible exact groatref02_Get.mono _ _)
   | (with_reducible exact groatref03_Get.mono _ _ _)
   | (with_reducible exact groatref07_Get.mono _ _ _ _ _)
   | (with_reducible exact groatref11_Check.mono _ _ _ _ _ _)
   | (with_reducible exact groatref11_Value.mono _ _ _ _ _ _ _)
   | (with_reducible exact LeO.refl _)
   | (with_reducible exact LeO.none _)
   | (with_reducible refine LeO.ite ?_ ?_)
   | (with_reducible refine LeO.bind ?_ (fun _ => ?_))
   | exact ih0 _ _ _ _ _ _ _ _ _
   | exact ih1 _ _ _ _ _ _ _ _ _
   | exact ih2 _ _ _ _ _ _ _ _ _ _ _
   | exact ih3 _ _ _ _ _ _ _ _ _ _
   | exact ih4 _ _ _ _ _ _ _ _ _ _ _
   | exact ih5 _ _ _ _ _ _ _ _ _ _
   | exact ih6 _ _ _ _ _ _ _ _ _ _ _
   | exact ih7 _ _ _ _ _ _ _ _ _
   | exact ih8 _ _ _ _ _ _ _ _ _
   | exact groatref02_Get.mono _ _
   | exact groatref03_Get.mono _ _ _
   | exact groatref07_Get.mono _ _ _ _ _
   | exact groatref11_Check.mono _ _ _ _ _ _
   | exact groatref11_Value.mono _ _ _ _ _ _ _
   | exact LeO.none _
   | refine LeO.ite ?_ ?_
   | refine LeO.bind ?_ (fun _ => ?_)
  ·intro y0 y1 y2 y3 y4 y5 y6 y7 y8 y9
   unfold groatref12_Get.j3
   repeat' first
   | (with_reducible exact ih0 _ _ _ _ _ _ _ _ _)
   | (with_reducible exact ih1 _ _ _ _ _ _ _ _ _)
   | (with_reducible exact ih2 _ _ _ _ _ _ _ _ _ _ _)
   | (with_reducible exact ih3 _ _ _ _ _ _ _ _ _ _)
   | (with_reducible exact ih4 _ _ _ _ _ _ _ _ _ _ _)
   | (with_reducible exact ih5 _ _ _ _ _ _ _ _ _ _)
   | (with_reducible exact ih6 _ _ _ _ _ _ _ _ _ _ _)
   | (with_reducible exact ih7 _ _ _ _ _ _ _ _ _)
   | (with_reducible exact ih8 _ _ _ _ _ _ _ _ _)
   | (with_reducible exact groatref02_Get.mono _ _)
   | (with_reducible exact groatref03_Get.mono _ _ _)
   | (with_reducible exact groatref07_Get.mono _ _ _ _ _)
   | (with_reducible exact groatref11_Check.mono _ _ _ _ _ _)
   | (with_reducible exact groatref11_Value.mono _ _ _ _ _ _ _)
   | (with_reducible exact LeO.refl _)
   | (with_reducible exact LeO.none _)
   | (with_reducible refine LeO.ite ?_ ?_)
   | (with_reducible refine LeO.bind ?_ (fun _ => ?_))
   | exact ih0 _ _ _ _ _ _ _ _ _
   | exact ih1 _ _ _ _ _ _ _ _ _
   | exact ih2 _ _ _ _ _ _ _ _ _ _ _
   | exact ih3 _ _ _ _ _ _ _ _ _ _
   | exact ih4 _ _ _ _ _ _ _ _ _ _ _
   | exact ih5 _ _ _ _ _ _ _ _ _ _
   | exact ih6 _ _ _ _ _ _ _ _ _ _ _
   | exact ih7 _ _ _ _ _ _ _ _ _
   | exact ih8 _ _ _ _ _ _ _ _ _
   | exact groatref02_Get.mono _ _
   | exact groatref03_Get.mono _ _ _
   | exact groatref07_Get.mono _ _ _ _ _
   | exact groatref11_Check.mono _ _ _ _ _ _
   | exact groatref11_Value.mono _ _ _ _ _ _ _
   | exact LeO.none _
   | refine LeO.ite ?_ ?_
   | refine LeO.bind ?_ (fun _ => ?_)
  ·intro y0 y1 y2 y3 y4 y5 y6 y7 y8 y9 y10
   unfold groatref12_Get.j4
   repeat' first
   | (with_reducible exact ih0 _ _ _ _ _ _ _ _ _)
   | (with_reducible exact ih1 _ _ _ _ _ _ _ _ _)
   | (with_reducible exact ih2 _ _ _ _ _ _ _ _ _ _ _)
   | (with_reducible exact ih3 _ _ _ _ _ _ _ _ _ _)
   | (with_reducible exact ih4 _ _ _ _ _ _ _ _ _ _ _)
   | (with_reducible exact ih5 _ _ _ _ _ _ _ _ _ _)
   | (with_reducible exact ih6 _ _ _ _ _ _ _ _ _ _ _)
   | (with_reducible exact ih7 _ _ _ _ _ _ _ _ _)
   | (with_reducible exact ih8 _ _ _ _ _ _ _ _ _)
   | (with_reducible exact groatref02_Get.mono _ _)
   | (with_reducible exact groatref03_Get.mono _ _ _)
   | (with_reducible exact groatref07_Get.mono _ _ _ _ _)
   | (with_reducible exact groatref11_Check.mono _ _ _ _ _ _)
   | (with_reducible exact groatref11_Value.mono _ _ _ _ _ _ _)
   | (with_reducible exact LeO.refl _)
   | (with_reducible exact LeO.none _)
   | (with_reducible refine LeO.ite ?_ ?_)
   | (with_reducible refine LeO.bind ?_ (fun _ => ?_))
   | exact ih0 _ _ _ _ _ _ _ _ _
   | exact ih1 _ _ _ _ _ _ _ _ _
   | exact ih2 _ _ _ _ _ _ _ _ _ _ _
   | exact ih3 _ _ _ _ _ _ _ _ _ _
   | exact ih4 _ _ _ _ _ _ _ _ _ _ _
   | exact ih5 _ _ _ _ _ _ _ _ _ _
   | exact ih6 _ _ _ _ _ _ _ _ _ _ _
   | exact ih7 _ _ _ _ _ _ _ _ _
   | exact ih8 _ _ _ _ _ _ _ _ _
   | exact groatref02_Get.mono _ _
   | exact groatref03_Get.mono _ _ _
   | exact groatref07_Get.mono _ _ _ _ _
   | exact groatref11_Check.mono _ _ _ _ _ _
   | exact groatref11_Value.mono _ _ _ _ _ _ _
   | exact LeO.none _
   | refine LeO.ite ?_ ?_
   | refine LeO.bind ?_ (fun _ => ?_)
  ·intro y0 y1 y2 y3 y4 y5 y6 y7 y8 y9
   unfold groatref12_Get.j5
   repeat' first
   | (with_reducible exact ih0 _ _ _ _ _ _ _ _ _)
   | (with_reducible exact ih1 _ _ _ _ _ _ _ _ _)
   | (with_reducible exact ih2 _ _ _ _ _ _ _ _ _ _ _)
   | (with_reducible exact ih3 _ _ _ _ _ _ _ _ _ _)
   | (with_reducible exact ih4 _ _ _ _ _ _ _ _ _ _ _)
   | (with_reducible exact ih5 _ _ _ _ _ _ _ _ _ _)
   | (with_reducible exact ih6 _ _ _ _ _ _ _ _ _ _ _)
   | (with_reducible exact ih7 _ _ _ _ _ _ _ _ _)
   | (with_reducible exact ih8 _ _ _ _ _ _ _ _ _)
   | (with_reducible exact groatref02_Get.mono _ _)
   | (with_reducible exact groatref03_Get.mono _ _ _)
   | (with_reducible exact groatref07_Get.mono _ _ _ _ _)
   | (with_reducible exact groatref11_Check.mono _ _ _ _ _ _)
   | (with_reducible exact groatref11_Value.mono _ _ _ _ _ _ _)
   | (with_reducible exact LeO.refl _)
   | (with_reducible exact LeO.none _)
   | (with_reducible refine LeO.ite ?_ ?_)
   | (with_reducible refine LeO.bind ?_ (fun _ => ?_))
   | exact ih0 _ _ _ _ _ _ _ _ _
   | exact ih1 _ _ _ _ _ _ _ _ _
   | exact ih2 _ _ _ _ _ _ _ _ _ _ _
   | exact ih3 _ _ _ _ _ _ _ _ _ _
   | exact ih4 _ _ _ _ _ _ _ _ _ _ _
   | exact ih5 _ _ _ _ _ _ _ _ _ _
   | exact ih6 _ _ _ _ _ _ _ _ _ _ _
   | exact ih7 _ _ _ _ _ _ _ _ _
   | exact ih8 _ _ _ _ _ _ _ _ _
   | exact groatref02_Get.mono _ _
   | exact groatref03_Get.mono _ _ _
   | exact groatref07_Get.mono _ _ _ _ _
   | exact groatref11_Check.mono _ _ _ _ _ _
   | exact groatref11_Value.mono _ _ _ _ _ _ _
   | exact LeO.none _
   | refine LeO.ite ?_ ?_
   | refine LeO.bind ?_ (fun _ => ?_)
  ·intro y0 y1 y2 y3 y4 y5 y6 y7 y8 y9 y10
   unfold groatref12_Get.j6
   repeat' first
   | (with_reducible exact ih0 _ _ _ _ _ _ _ _ _)
   | (with_reducible exact ih1 _ _ _ _ _ _ _ _ _)
   | (with_reducible exact ih2 _ _ _ _ _ _ _ _ _ _ _)
   | (with_reducible exact ih3 _ _ _ _ _ _ _ _ _ _)
   | (with_reducible exact ih4 _ _ _ _ _ _ _ _ _ _ _)
   | (with_reducible exact ih5 _ _ _ _ _ _ _ _ _ _)
   | (with_reducible exact ih6 _ _ _ _ _ _ _ _ _ _ _)
   | (with_reducible exact ih7 _ _ _ _ _ _ _ _ _)
   | (with_reducible exact ih8 _ _ _ _ _ _ _ _ _)
   | (with_reducible exact groatref02_Get.mono _ _)
   | (with_reducible exact groatref03_Get.mono _ _ _)
   | (with_reducible exact groatref07_Get.mono _ _ _ _ _)
   | (with_reducible exact groatref11_Check.mono _ _ _ _ _ _)
   | (with_reducible exact groatref11_Value.mono _ _ _ _ _ _ _)
   | (with_reducible exact LeO.refl _)
   | (with_reducible exact LeO.none _)
   | (with_reducible refine LeO.ite ?_ ?_)
   | (with_reducible refine LeO.bind ?_ (fun _ => ?_))
   | exact ih0 _ _ _ _ _ _ _ _ _
   | exact ih1 _ _ _ _ _ _ _ _ _
   | exact ih2 _ _ _ _ _ _ _ _ _ _ _
   | exact ih3 _ _ _ _ _ _ _ _ _ _
   | exact ih4 _ _ _ _ _ _ _ _ _ _ _
   | exact ih5 _ _ _ _ _ _ _ _ _ _
   | exact ih6 _ _ _ _ _ _ _ _ _ _ _
   | exact ih7 _ _ _ _ _ _ _ _ _
   | exact ih8 _ _ _ _ _ _ _ _ _
   | exact groatref02_Get.mono _ _
   | exact groatref03_Get.mono _ _ _
   | exact groatref07_Get.mono _ _ _ _ _
   | exact groatref11_Check.mono _ _ _ _ _ _
   | exact groatref11_Value.mono _ _ _ _ _ _ _
   | exact LeO.none _
   | refine LeO.ite ?_ ?_
   | refine LeO.bind ?_ (fun _ => ?_)
  ·intro y0 y1 y2 y3 y4 y5 y6 y7 y8
   unfold groatref12_Get.j7
   repeat' first
   | (with_reducible exact ih0 _ _ _ _ _ _ _ _ _)
   | (with_reducible exact ih1 _ _ _ _ _ _ _ _ _)
   | (with_reducible exact ih2 _ _ _ _ _ _ _ _ _ _ _)
   | (with_reducible exact ih3 _ _ _ _ _ _ _ _ _ _)
   | (with_reducible exact ih4 _ _ _ _ _ _ _ _ _ _ _)
   | (with_reducible exact ih5 _ _ _ _ _ _ _ _ _ _)
   | (with_reducible exact ih6 _ _ _ _ _ _ _ _ _ _ _)
   | (with_reducible exact ih7 _ _ _ _ _ _ _ _ _)
   | (with_reducible exact ih8 _ _ _ _ _ _ _ _ _)
   | (with_reducible exact groatref02_Get.mono _ _)
   | (with_reducible exact groatref03_Get.mono _ _ _)
   | (with_reducible exact groatref07_Get.mono _ _ _ _ _)
   | (with_reducible exact groatref11_Check.mono _ _ _ _ _ _)
   | (with_reducible exact groatref11_Value.mono _ _ _ _ _ _ _)
   | (with_reducible exact LeO.refl _)
   | (with_reducible exact LeO.none _)
   | (with_reducible refine LeO.ite ?_ ?_)
   | (with_reducible refine LeO.bind ?_ (fun _ => ?_))
   | exact ih0 _ _ _ _ _ _ _ _ _
   | exact ih1 _ _ _ _ _ _ _ _ _
   | exact ih2 _ _ _ _ _ _ _ _ _ _ _
   | exact ih3 _ _ _ _ _ _ _ _ _ _
   | exact ih4 _ _ _ _ _ _ _ _ _ _ _
   | exact ih5 _ _ _ _ _ _ _ _ _ _
   | exact ih6 _ _ _ _ _ _ _ _ _ _ _
   | exact ih7 _ _ _ _ _ _ _ _ _
   | exact ih8 _ _ _ _ _ _ _ _ _
   | exact groatref02_Get.mono _ _
   | exact groatref03_Get.mono _ _ _
   | exact groatref07_Get.mono _ _ _ _ _
   | exact groatref11_Check.mono _ _ _ _ _ _
   | exact groatref11_Value.mono _ _ _ _ _ _ _
   | exact LeO.none _
   | refine LeO.ite ?_ ?_
   | refine LeO.bind ?_ (fun _ => ?_)
  ·intro y0 y1 y2 y3 y4 y5 y6 y7 y8
   unfold groatref12_Get.j8
   repeat' first
   | (with_reducible exact ih0 _ _ _ _ _ _ _ _ _)
   | (with_reducible exact ih1 _ _ _ _ _ _ _ _ _)
   | (with_reducible exact ih2 _ _ _ _ _ _ _ _ _ _ _)
   | (with_reducible exact ih3 _ _ _ _ _ _ _ _ _ _)
   | (with_reducible exact ih4 _ _ _ _ _ _ _ _ _ _ _)
   | (with_reducible exact ih5 _ _ _ _ _ _ _ _ _ _)
   | (with_reducible exact ih6 _ _ _ _ _ _ _ _ _ _ _)
   | (with_reducible exact ih7 _ _ _ _ _ _ _ _ _)
   | (with_reducible exact ih8 _ _ _ _ _ _ _ _ _)
   | (with_reducible exact groatref02_Get.mono _ _)
   | (with_reducible exact groatref03_Get.mono _ _ _)
   | (with_reducible exact groatref07_Get.mono _ _ _ _ _)
   | (with_reducible exact groatref11_Check.mono _ _ _ _ _ _)
   | (with_reducible exact groatref11_Value.mono _ _ _ _ _ _ _)
   | (with_reducible exact LeO.refl _)
   | (with_reducible exact LeO.none _)
   | (with_reducible refine LeO.ite ?_ ?_)
   | (with_reducible refine LeO.bind ?_ (fun _ => ?_))
   | exact ih0 _ _ _ _ _ _ _ _ _
   | exact ih1 _ _ _ _ _ _ _ _ _
   | exact ih2 _ _ _ _ _ _ _ _ _ _ _
   | exact ih3 _ _ _ _ _ _ _ _ _ _
   | exact ih4 _ _ _ _ _ _ _ _ _ _ _
   | exact ih5 _ _ _ _ _ _ _ _ _ _
   | exact ih6 _ _ _ _ _ _ _ _ _ _ _
   | exact ih7 _ _ _ _ _ _ _ _ _
   | exact ih8 _ _ _ _ _ _ _ _ _
   | exact groatref02_Get.mono _ _
   | exact groatref03_Get.mono _ _ _
   | exact groatref07_Get.mono _ _ _ _ _
   | exact groatref11_Check.mono _ _ _ _ _ _
   | exact groatref11_Value.mono _ _ _ _ _ _ _
   | exact LeO.none _
   | refine LeO.ite ?_ ?_
   | refine LeO.bind ?_ (fun _ => ?_)
theorem groatref12_Get.mono : ∀ a0 a1 a2 a3 a4 a5 a6 a7 k, LeO (groatref12_Get.f k a0 a1 a2 a3 a4 a5 a6 a7) (groatref12_Get.f (k + 1) a0 a1 a2 a3 a4 a5 a6 a7) := by
 intro a0 a1 a2 a3 a4 a5 a6 a7 k
 obtain ⟨ih0, ih1, ih2, ih3, ih4, ih5, ih6, ih7, ih8⟩ := groatref12_Get.mono_l k
 unfold groatref12_Get.f
 repeat' first
   | (with_reducible exact ih0 _ _ _ _ _ _ _ _ _)
   | (with_reducible exact ih1 _ _ _ _ _ _ _ _ _)
   | (with_reducible exact ih2 _ _ _ _ _ _ _ _ _ _ _)
   | (with_reducible exact ih3 _ _ _ _ _ _ _ _ _ _)
   | (with_reducible exact ih4 _ _ _ _ _ _ _ _ _ _ _)
   | (with_reducible exact ih5 _ _ _ _ _ _ _ _ _ _)
   | (with_reducible exact ih6 _ _ _ _ _ _ _ _ _ _ _)
   | (with_reducible exact ih7 _ _ _ _ _ _ _ _ _)
   | (with_reducible exact ih8 _ _ _ _ _ _ _ _ _)
   | (with_reducible exact groatref02_Get.mono _ _)
   | (with_reducible exact groatref03_Get.mono _ _ _)
   | (with_reducible exact groatref07_Get.mono _ _ _ _ _)
   | (with_reducible exact groatref11_Check.mono _ _ _ _ _ _)
   | (with_reducible exact groatref11_Value.mono _ _ _ _ _ _ _)
   | (with_reducible exact LeO.refl _)
   | (with_reducible exact LeO.none _)
   | (with_reducible refine LeO.ite ?_ ?_)
   | (with_reducible refine LeO.bind ?_ (fun _ => ?_))
   | exact ih0 _ _ _ _ _ _ _ _ _
   | exact ih1 _ _ _ _ _ _ _ _ _
   | exact ih2 _ _ _ _ _ _ _ _ _ _ _
   | exact ih3 _ _ _ _ _ _ _ _ _ _
   | exact ih4 _ _ _ _ _ _ _ _ _ _ _
   | exact ih5 _ _ _ _ _ _ _ _ _ _
   | exact ih6 _ _ _ _ _ _ _ _ _ _ _
   | exact ih7 _ _ _ _ _ _ _ _ _
   | exact ih8 _ _ _ _ _ _ _ _ _
   | exact groatref02_Get.mono _ _
   | exact groatref03_Get.mono _ _ _
   | exact groatref07_Get.mono _ _ _ _ _
   | exact groatref11_Check.mono _ _ _ _ _ _
   | exact groatref11_Value.mono _ _ _ _ _ _ _
   | exact LeO.none _
   | refine LeO.ite ?_ ?_
   | refine LeO.bind ?_ (fun _ => ?_)
set_option maxHeartbeats 8000000 in
set_option maxRecDepth 100000 in
theorem groatref12_Get.calls (k : Nat) (a0 : Int) (a1_0 : Int) (a1_1 : Int) (a1_2 : Int) (a1_3 : Int) (a1_4 : Int) (a2 : ByteArray) (a3 : Int) (r1 : ByteArray) (r2 : Int) (r3 : Int) (w : World) (h : groatref12_Get.f k a0 a1_0 a1_1 a1_2 a1_3 a1_4 a2 a3 = some (r1, r2, r3)) :
  Calls Try.prog 24 #[.int .i64 a0, .agg #[.int .i64 a1_0, .int .i64 a1_1, .int .i64 a1_2, .int .i64 a1_3, .int .i64 a1_4], .string a2, .int .i64 a3] w fun e w' => e = .returned (.tuple #[.string r1, .int .i64 r2, .int .i64 r3]) ∧ Below w.heap.size w w' := by
 have hu23 := Try.underlying23
 have HB := Aside0.mk (Below.refl w.heap.size w)
 have H : (if a0 = 1 then ((groatref11_Check.f k a1_0 a1_1 a1_2 a1_3 a1_4).bind fun t375 => (if t375 = 0 then (if a3 < 0 then (groatref12_Get.j0 k a0 a2 a3 true a1_0 a1_1 a1_2 a1_3 a1_4) else (groatref12_Get.j0 k a0 a2 a3 (decide (a3 > (a2.size : Int))) a1_0 a1_1 a1_2 a1_3 a1_4)) else (groatref12_Get.j0 k a0 a2 a3 true a1_0 a1_1 a1_2 a1_3 a1_4))) else (if a0 = 2 then ((groatref11_Check.f k a1_0 a1_1 a1_2 a1_3 a1_4).bind fun t376 => (if t376 = 0 then (if a3 < 0 then (groatref12_Get.j0 k a0 a2 a3 true a1_0 a1_1 a1_2 a1_3 a1_4) else (groatref12_Get.j0 k a0 a2 a3 (decide (a3 > (a2.size : Int))) a1_0 a1_1 a1_2 a1_3 a1_4)) else (groatref12_Get.j0 k a0 a2 a3 true a1_0 a1_1 a1_2 a1_3 a1_4))) else (groatref12_Get.j0 k a0 a2 a3 true a1_0 a1_1 a1_2 a1_3 a1_4))) = some (r1, r2, r3) := h
 clear h
 have HC5 := Aside0.mk H
 clear H
 go_enter Try.func24, Try.ntmps24
 go_upto_region 1 with (first | ((with_reducible refine gate_dst (N := 5) rfl ?_); refine box_event ?hg (N := 5) ?hd (cs := #[.int .i64 a1_0, .int .i64 a1_1, .int .i64 a1_2, .int .i64 a1_3, .int .i64 a1_4]) (t := 23) ?hr ?_; (case hd => rfl); (case hg => rfl); (case hr => first | (go_simp; done) | (go_simp; rfl) | (have hu8_ := IntKind.wrap_u8; go_simp; done) | (have hu8_ := IntKind.wrap_u8; go_simp; rfl) | (go_simp; simp [IntKind.wrap_u8]; done)); intro gb374 hg w6 hbox hb; have n0_ := Aside0.mk (below_step (by repeat (first | (with_reducible first | exact HB.out | apply below_alloc | apply pw_below_drewN | apply below_drew1) | exact HB.out)) hb); have n1_ := Aside0.mk (hbox); have n2_ := Aside0.mk ((by rw [hg]; exact (below_size (by repeat (first | (with_reducible first | exact HB.out | apply below_alloc | apply pw_below_drewN | apply below_drew1) | exact HB.out))) : w.heap.size ≤ gb374)); have n3_ := Aside0.mk ((by rw [hg]; exact (below_size (by repeat (first | (with_reducible first | exact HB.out | apply below_alloc | apply pw_below_drewN | apply below_drew1) | exact HB.out))) : w.heap.size ≤ gb374)); clear HB; have HB := n0_; have BK374 := n1_; have GW374 := n2_; have GE374 := n3_; clear n0_ n1_ n2_ n3_; clear hb hbox hg))
 (try simp only [Act.put, List.setIfInBounds_toArray, List.set_cons_zero, List.set_cons_succ])
 go_cut [44] (fun v44 wc => ∃ (kq : Nat) (x44_4 : Bool), v44 = .bool x44_4 ∧ Aside0 (groatref12_Get.j0 kq a0 a2 a3 x44_4 a1_0 a1_1 a1_2 a1_3 a1_4 = some (r1, r2, r3)) ∧ Aside0 (kq ≤ k) ∧ Aside0 (wc.heap[gb374]? = some (.cells #[.int .i64 a1_0, .int .i64 a1_1, .int .i64 a1_2, .int .i64 a1_3, .int .i64 a1_4] 23 (0, 0))) ∧ Aside0 (Below w.heap.size w wc))
 case first =>
  have H := HC5.out
  clear HC5
  by_cases c7 : a0 = 1
  ·rw [if_pos c7] at H
   have c7b0 : (a0 == 1) = true := beq_iff_eq.mpr c7
   have c7b1 : (a0 != 1) = false := bne_eq_false_iff_eq.mpr c7
   clear c7
   (first | rw [c7b0] | (simp only [i64_w, i32_w]; rw [c7b0]) | skip)
   replace H := Option.bind_eq_some_iff.mp H
   obtain ⟨t375, A80, H⟩ := H
   replace H : (if t375 = 0 then (if a3 < 0 then (groatref12_Get.j0 k a0 a2 a3 true a1_0 a1_1 a1_2 a1_3 a1_4) else (groatref12_Get.j0 k a0 a2 a3 (decide (a3 > (a2.size : Int))) a1_0 a1_1 a1_2 a1_3 a1_4)) else (groatref12_Get.j0 k a0 a2 a3 true a1_0 a1_1 a1_2 a1_3 a1_4)) = some (r1, r2, r3) := H
   have A8 := Aside0.mk A80
   clear A80
   by_cases c9 : t375 = 0
   ·rw [if_pos c9] at H
    have c9b0 : (t375 == 0) = true := beq_iff_eq.mpr c9
    have c9b1 : (t375 != 0) = false := bne_eq_false_iff_eq.mpr c9
    clear c9
    by_cases c10 : a3 < 0
    ·rw [if_pos c10] at H
     have c10b0 : decide (a3 < 0) = true := decide_eq_true c10
     clear c10
     have H' := Aside0.mk H
     clear H
     have hcz11_0 : w6.cell? ⟨gb374, 0, none⟩ = some (.int .i64 a1_0) := (blk_cell BK374.out 0).trans rfl
     have hcz11_1 : w6.cell? ⟨gb374, 1, none⟩ = some (.int .i64 a1_1) := (blk_cell BK374.out 1).trans rfl
     have hcz11_2 : w6.cell? ⟨gb374, 2, none⟩ = some (.int .i64 a1_2) := (blk_cell BK374.out 2).trans rfl
     have hcz11_3 : w6.cell? ⟨gb374, 3, none⟩ = some (.int .i64 a1_3) := (blk_cell BK374.out 3).trans rfl
     have hcz11_4 : w6.cell? ⟨gb374, 4, none⟩ = some (.int .i64 a1_4) := (blk_cell BK374.out 4).trans rfl
     have hfz11_0 := blk_frozen BK374.out 0
     have hfz11_1 := blk_frozen BK374.out 1
     have hfz11_2 := blk_frozen BK374.out 2
     have hfz11_3 := blk_frozen BK374.out 3
     have hfz11_4 := blk_frozen BK374.out 4
     go_wp2_with (first | (go_at_call 15; (with_reducible refine (groatref11_Check.calls k a1_0 a1_1 a1_2 a1_3 a1_4 t375 _ A8.out).mono ?_); rintro e w12 ⟨rfl, hb⟩; have n0_ := Aside0.mk (blk_below (g := gb374) (o := .cells #[.int .i64 a1_0, .int .i64 a1_1, .int .i64 a1_2, .int .i64 a1_3, .int .i64 a1_4] 23 (0, 0)) (by (with_reducible repeat (first | refine blk_drewN ?_ _ | refine blk_drew ?_ | refine blk_alloc ?_ _)); exact BK374.out) hb); have n1_ := Aside0.mk (below_step (by repeat (first | (with_reducible first | exact HB.out | apply below_alloc | apply pw_below_drewN | apply below_drew1 | refine below_set ?_ GE374.out) | exact HB.out)) hb); clear BK374; clear HB; have BK374 := n0_; have HB := n1_; clear n0_ n1_; (try clear hb); (try clear hb2); (try clear hk); (try clear hi)))
     go_meet
     case rel => exact ⟨_, (true), (by first | rfl | (simp; done) | (simp [*]; done) | (simp [wrap64]; done)), H', ⟨by first | omega | exact Nat.le_refl _⟩, ⟨by (with_reducible repeat (first | refine blk_drewN ?_ _ | refine blk_drew ?_ | refine blk_alloc ?_ _)); exact BK374.out⟩, ⟨by repeat (first | (with_reducible first | exact HB.out | apply below_alloc | apply pw_below_drewN | apply below_drew1 | refine below_set ?_ GE374.out) | exact HB.out)⟩⟩
    ·rw [if_neg c10] at H
     have c10b0 : decide (a3 < 0) = false := decide_eq_false c10
     clear c10
     have H' := Aside0.mk H
     clear H
     have hcz13_0 : w6.cell? ⟨gb374, 0, none⟩ = some (.int .i64 a1_0) := (blk_cell BK374.out 0).trans rfl
     have hcz13_1 : w6.cell? ⟨gb374, 1, none⟩ = some (.int .i64 a1_1) := (blk_cell BK374.out 1).trans rfl
     have hcz13_2 : w6.cell? ⟨gb374, 2, none⟩ = some (.int .i64 a1_2) := (blk_cell BK374.out 2).trans rfl
     have hcz13_3 : w6.cell? ⟨gb374, 3, none⟩ = some (.int .i64 a1_3) := (blk_cell BK374.out 3).trans rfl
     have hcz13_4 : w6.cell? ⟨gb374, 4, none⟩ = some (.int .i64 a1_4) := (blk_cell BK374.out 4).trans rfl
     have hfz13_0 := blk_frozen BK374.out 0
     have hfz13_1 := blk_frozen BK374.out 1
     have hfz13_2 := blk_frozen BK374.out 2
     have hfz13_3 := blk_frozen BK374.out 3
     have hfz13_4 := blk_frozen BK374.out 4
     go_wp2_with (first | (go_at_call 15; (with_reducible refine (groatref11_Check.calls k a1_0 a1_1 a1_2 a1_3 a1_4 t375 _ A8.out).mono ?_); rintro e w14 ⟨rfl, hb⟩; have n0_ := Aside0.mk (blk_below (g := gb374) (o := .cells #[.int .i64 a1_0, .int .i64 a1_1, .int .i64 a1_2, .int .i64 a1_3, .int .i64 a1_4] 23 (0, 0)) (by (with_reducible repeat (first | refine blk_drewN ?_ _ | refine blk_drew ?_ | refine blk_alloc ?_ _)); exact BK374.out) hb); have n1_ := Aside0.mk (below_step (by repeat (first | (with_reducible first | exact HB.out | apply below_alloc | apply pw_below_drewN | apply below_drew1 | refine below_set ?_ GE374.out) | exact HB.out)) hb); clear BK374; clear HB; have BK374 := n0_; have HB := n1_; clear n0_ n1_; (try clear hb); (try clear hb2); (try clear hk); (try clear hi)))
     go_meet
     case rel => exact ⟨_, (decide (a3 > (a2.size : Int))), (by first | rfl | (simp; done) | (simp [*]; done) | (simp [wrap64]; done)), H', ⟨by first | omega | exact Nat.le_refl _⟩, ⟨by (with_reducible repeat (first | refine blk_drewN ?_ _ | refine blk_drew ?_ | refine blk_alloc ?_ _)); exact BK374.out⟩, ⟨by repeat (first | (with_reducible first | exact HB.out | apply below_alloc | apply pw_below_drewN | apply below_drew1 | refine below_set ?_ GE374.out) | exact HB.out)⟩⟩
   ·rw [if_neg c9] at H
    have c9b0 : (t375 == 0) = false := beq_eq_false_iff_ne.mpr c9
    have c9b1 : (t375 != 0) = true := bne_iff_ne.mpr c9
    have H' := Aside0.mk H
    clear H
    have hcz15_0 : w6.cell? ⟨gb374, 0, none⟩ = some (.int .i64 a1_0) := (blk_cell BK374.out 0).trans rfl
    have hcz15_1 : w6.cell? ⟨gb374, 1, none⟩ = some (.int .i64 a1_1) := (blk_cell BK374.out 1).trans rfl
    have hcz15_2 : w6.cell? ⟨gb374, 2, none⟩ = some (.int .i64 a1_2) := (blk_cell BK374.out 2).trans rfl
    have hcz15_3 : w6.cell? ⟨gb374, 3, none⟩ = some (.int .i64 a1_3) := (blk_cell BK374.out 3).trans rfl
    have hcz15_4 : w6.cell? ⟨gb374, 4, none⟩ = some (.int .i64 a1_4) := (blk_cell BK374.out 4).trans rfl
    have hfz15_0 := blk_frozen BK374.out 0
    have hfz15_1 := blk_frozen BK374.out 1
    have hfz15_2 := blk_frozen BK374.out 2
    have hfz15_3 := blk_frozen BK374.out 3
    have hfz15_4 := blk_frozen BK374.out 4
    go_wp2_with (first | (go_at_call 15; (with_reducible refine (groatref11_Check.calls k a1_0 a1_1 a1_2 a1_3 a1_4 t375 _ A8.out).mono ?_); rintro e w16 ⟨rfl, hb⟩; have n0_ := Aside0.mk (blk_below (g := gb374) (o := .cells #[.int .i64 a1_0, .int .i64 a1_1, .int .i64 a1_2, .int .i64 a1_3, .int .i64 a1_4] 23 (0, 0)) (by (with_reducible repeat (first | refine blk_drewN ?_ _ | refine blk_drew ?_ | refine blk_alloc ?_ _)); exact BK374.out) hb); have n1_ := Aside0.mk (below_step (by repeat (first | (with_reducible first | exact HB.out | apply below_alloc | apply pw_below_drewN | apply below_drew1 | refine below_set ?_ GE374.out) | exact HB.out)) hb); clear BK374; clear HB; have BK374 := n0_; have HB := n1_; clear n0_ n1_; (try clear hb); (try clear hb2); (try clear hk); (try clear hi)))
    go_meet
    case rel => exact ⟨_, (true), (by first | rfl | (simp; done) | (simp [*]; done) | (simp [wrap64]; done)), H', ⟨by first | omega | exact Nat.le_refl _⟩, ⟨by (with_reducible repeat (first | refine blk_drewN ?_ _ | refine blk_drew ?_ | refine blk_alloc ?_ _)); exact BK374.out⟩, ⟨by repeat (first | (with_reducible first | exact HB.out | apply below_alloc | apply pw_below_drewN | apply below_drew1 | refine below_set ?_ GE374.out) | exact HB.out)⟩⟩
  ·rw [if_neg c7] at H
   have c7b0 : (a0 == 1) = false := beq_eq_false_iff_ne.mpr c7
   have c7b1 : (a0 != 1) = true := bne_iff_ne.mpr c7
   (first | rw [c7b0] | (simp only [i64_w, i32_w]; rw [c7b0]) | skip)
   by_cases c17 : a0 = 2
   ·rw [if_pos c17] at H
    have c17b0 : (a0 == 2) = true := beq_iff_eq.mpr c17
    have c17b1 : (a0 != 2) = false := bne_eq_false_iff_eq.mpr c17
    clear c17
    replace H := Option.bind_eq_some_iff.mp H
    obtain ⟨t376, A180, H⟩ := H
    replace H : (if t376 = 0 then (if a3 < 0 then (groatref12_Get.j0 k a0 a2 a3 true a1_0 a1_1 a1_2 a1_3 a1_4) else (groatref12_Get.j0 k a0 a2 a3 (decide (a3 > (a2.size : Int))) a1_0 a1_1 a1_2 a1_3 a1_4)) else (groatref12_Get.j0 k a0 a2 a3 true a1_0 a1_1 a1_2 a1_3 a1_4)) = some (r1, r2, r3) := H
    have A18 := Aside0.mk A180
    clear A180
    by_cases c19 : t376 = 0
    ·rw [if_pos c19] at H
     have c19b0 : (t376 == 0) = true := beq_iff_eq.mpr c19
     have c19b1 : (t376 != 0) = false := bne_eq_false_iff_eq.mpr c19
     clear c19
     by_cases c20 : a3 < 0
     ·rw [if_pos c20] at H
      have c20b0 : decide (a3 < 0) = true := decide_eq_true c20
      clear c20
      have H' := Aside0.mk H
      clear H
      have hcz21_0 : w6.cell? ⟨gb374, 0, none⟩ = some (.int .i64 a1_0) := (blk_cell BK374.out 0).trans rfl
      have hcz21_1 : w6.cell? ⟨gb374, 1, none⟩ = some (.int .i64 a1_1) := (blk_cell BK374.out 1).trans rfl
      have hcz21_2 : w6.cell? ⟨gb374, 2, none⟩ = some (.int .i64 a1_2) := (blk_cell BK374.out 2).trans rfl
      have hcz21_3 : w6.cell? ⟨gb374, 3, none⟩ = some (.int .i64 a1_3) := (blk_cell BK374.out 3).trans rfl
      have hcz21_4 : w6.cell? ⟨gb374, 4, none⟩ = some (.int .i64 a1_4) := (blk_cell BK374.out 4).trans rfl
      have hfz21_0 := blk_frozen BK374.out 0
      have hfz21_1 := blk_frozen BK374.out 1
      have hfz21_2 := blk_frozen BK374.out 2
      have hfz21_3 := blk_frozen BK374.out 3
      have hfz21_4 := blk_frozen BK374.out 4
      go_wp2_with (first | (go_at_call 15; (with_reducible refine (groatref11_Check.calls k a1_0 a1_1 a1_2 a1_3 a1_4 t376 _ A18.out).mono ?_); rintro e w22 ⟨rfl, hb⟩; have n0_ := Aside0.mk (blk_below (g := gb374) (o := .cells #[.int .i64 a1_0, .int .i64 a1_1, .int .i64 a1_2, .int .i64 a1_3, .int .i64 a1_4] 23 (0, 0)) (by (with_reducible repeat (first | refine blk_drewN ?_ _ | refine blk_drew ?_ | refine blk_alloc ?_ _)); exact BK374.out) hb); have n1_ := Aside0.mk (below_step (by repeat (first | (with_reducible first | exact HB.out | apply below_alloc | apply pw_below_drewN | apply below_drew1 | refine below_set ?_ GE374.out) | exact HB.out)) hb); clear BK374; clear HB; have BK374 := n0_; have HB := n1_; clear n0_ n1_; (try clear hb); (try clear hb2); (try clear hk); (try clear hi)))
      go_meet
      case rel => exact ⟨_, (true), (by first | rfl | (simp; done) | (simp [*]; done) | (simp [wrap64]; done)), H', ⟨by first | omega | exact Nat.le_refl _⟩, ⟨by (with_reducible repeat (first | refine blk_drewN ?_ _ | refine blk_drew ?_ | refine blk_alloc ?_ _)); exact BK374.out⟩, ⟨by repeat (first | (with_reducible first | exact HB.out | apply below_alloc | apply pw_below_drewN | apply below_drew1 | refine below_set ?_ GE374.out) | exact HB.out)⟩⟩
     ·rw [if_neg c20] at H
      have c20b0 : decide (a3 < 0) = false := decide_eq_false c20
      clear c20
      have H' := Aside0.mk H
      clear H
      have hcz23_0 : w6.cell? ⟨gb374, 0, none⟩ = some (.int .i64 a1_0) := (blk_cell BK374.out 0).trans rfl
      have hcz23_1 : w6.cell? ⟨gb374, 1, none⟩ = some (.int .i64 a1_1) := (blk_cell BK374.out 1).trans rfl
      have hcz23_2 : w6.cell? ⟨gb374, 2, none⟩ = some (.int .i64 a1_2) := (blk_cell BK374.out 2).trans rfl
      have hcz23_3 : w6.cell? ⟨gb374, 3, none⟩ = some (.int .i64 a1_3) := (blk_cell BK374.out 3).trans rfl
      have hcz23_4 : w6.cell? ⟨gb374, 4, none⟩ = some (.int .i64 a1_4) := (blk_cell BK374.out 4).trans rfl
      have hfz23_0 := blk_frozen BK374.out 0
      have hfz23_1 := blk_frozen BK374.out 1
      have hfz23_2 := blk_frozen BK374.out 2
      have hfz23_3 := blk_frozen BK374.out 3
      have hfz23_4 := blk_frozen BK374.out 4
      go_wp2_with (first | (go_at_call 15; (with_reducible refine (groatref11_Check.calls k a1_0 a1_1 a1_2 a1_3 a1_4 t376 _ A18.out).mono ?_); rintro e w24 ⟨rfl, hb⟩; have n0_ := Aside0.mk (blk_below (g := gb374) (o := .cells #[.int .i64 a1_0, .int .i64 a1_1, .int .i64 a1_2, .int .i64 a1_3, .int .i64 a1_4] 23 (0, 0)) (by (with_reducible repeat (first | refine blk_drewN ?_ _ | refine blk_drew ?_ | refine blk_alloc ?_ _)); exact BK374.out) hb); have n1_ := Aside0.mk (below_step (by repeat (first | (with_reducible first | exact HB.out | apply below_alloc | apply pw_below_drewN | apply below_drew1 | refine below_set ?_ GE374.out) | exact HB.out)) hb); clear BK374; clear HB; have BK374 := n0_; have HB := n1_; clear n0_ n1_; (try clear hb); (try clear hb2); (try clear hk); (try clear hi)))
      go_meet
      case rel => exact ⟨_, (decide (a3 > (a2.size : Int))), (by first | rfl | (simp; done) | (simp [*]; done) | (simp [wrap64]; done)), H', ⟨by first | omega | exact Nat.le_refl _⟩, ⟨by (with_reducible repeat (first | refine blk_drewN ?_ _ | refine blk_drew ?_ | refine blk_alloc ?_ _)); exact BK374.out⟩, ⟨by repeat (first | (with_reducible first | exact HB.out | apply below_alloc | apply pw_below_drewN | apply below_drew1 | refine below_set ?_ GE374.out) | exact HB.out)⟩⟩
    ·rw [if_neg c19] at H
     have c19b0 : (t376 == 0) = false := beq_eq_false_iff_ne.mpr c19
     have c19b1 : (t376 != 0) = true := bne_iff_ne.mpr c19
     have H' := Aside0.mk H
     clear H
     have hcz25_0 : w6.cell? ⟨gb374, 0, none⟩ = some (.int .i64 a1_0) := (blk_cell BK374.out 0).trans rfl
     have hcz25_1 : w6.cell? ⟨gb374, 1, none⟩ = some (.int .i64 a1_1) := (blk_cell BK374.out 1).trans rfl
     have hcz25_2 : w6.cell? ⟨gb374, 2, none⟩ = some (.int .i64 a1_2) := (blk_cell BK374.out 2).trans rfl
     have hcz25_3 : w6.cell? ⟨gb374, 3, none⟩ = some (.int .i64 a1_3) := (blk_cell BK374.out 3).trans rfl
     have hcz25_4 : w6.cell? ⟨gb374, 4, none⟩ = some (.int .i64 a1_4) := (blk_cell BK374.out 4).trans rfl
     have hfz25_0 := blk_frozen BK374.out 0
     have hfz25_1 := blk_frozen BK374.out 1
     have hfz25_2 := blk_frozen BK374.out 2
     have hfz25_3 := blk_frozen BK374.out 3
     have hfz25_4 := blk_frozen BK374.out 4
     go_wp2_with (first | (go_at_call 15; (with_reducible refine (groatref11_Check.calls k a1_0 a1_1 a1_2 a1_3 a1_4 t376 _ A18.out).mono ?_); rintro e w26 ⟨rfl, hb⟩; have n0_ := Aside0.mk (blk_below (g := gb374) (o := .cells #[.int .i64 a1_0, .int .i64 a1_1, .int .i64 a1_2, .int .i64 a1_3, .int .i64 a1_4] 23 (0, 0)) (by (with_reducible repeat (first | refine blk_drewN ?_ _ | refine blk_drew ?_ | refine blk_alloc ?_ _)); exact BK374.out) hb); have n1_ := Aside0.mk (below_step (by repeat (first | (with_reducible first | exact HB.out | apply below_alloc | apply pw_below_drewN | apply below_drew1 | refine below_set ?_ GE374.out) | exact HB.out)) hb); clear BK374; clear HB; have BK374 := n0_; have HB := n1_; clear n0_ n1_; (try clear hb); (try clear hb2); (try clear hk); (try clear hi)))
     go_meet
     case rel => exact ⟨_, (true), (by first | rfl | (simp; done) | (simp [*]; done) | (simp [wrap64]; done)), H', ⟨by first | omega | exact Nat.le_refl _⟩, ⟨by (with_reducible repeat (first | refine blk_drewN ?_ _ | refine blk_drew ?_ | refine blk_alloc ?_ _)); exact BK374.out⟩, ⟨by repeat (first | (with_reducible first | exact HB.out | apply below_alloc | apply pw_below_drewN | apply below_drew1 | refine below_set ?_ GE374.out) | exact HB.out)⟩⟩
   ·rw [if_neg c17] at H
    have c17b0 : (a0 == 2) = false := beq_eq_false_iff_ne.mpr c17
    have c17b1 : (a0 != 2) = true := bne_iff_ne.mpr c17
    have H' := Aside0.mk H
    clear H
    go_wp2
    go_meet
    case rel => exact ⟨_, (true), (by first | rfl | (simp; done) | (simp [*]; done) | (simp [wrap64]; done)), H', ⟨by first | omega | exact Nat.le_refl _⟩, ⟨by (with_reducible repeat (first | refine blk_drewN ?_ _ | refine blk_drew ?_ | refine blk_alloc ?_ _)); exact BK374.out⟩, ⟨by repeat (first | (with_reducible first | exact HB.out | apply below_alloc | apply pw_below_drewN | apply below_drew1 | refine below_set ?_ GE374.out) | exact HB.out)⟩⟩
 case rest =>
  clear HC5
  try clear c1
  try clear c2
  try clear p2
  try clear p6
  try clear c7
  try clear c7b0
  try clear c7b1
  try clear c9
  try clear c9b0
  try clear c9b1
  try clear c10
  try clear c10b0
  try clear c17
  try clear c17b0
  try clear c17b1
  try clear c19
  try clear c19b0
  try clear c19b1
  try clear c20
  try clear c20b0
  try clear c24
  try clear hcz11_0
  try clear hcz11_1
  try clear hcz11_2
  try clear hcz11_3
  try clear hcz11_4
  try clear hcz13_0
  try clear hcz13_1
  try clear hcz13_2
  try clear hcz13_3
  try clear hcz13_4
  try clear hcz15_0
  try clear hcz15_1
  try clear hcz15_2
  try clear hcz15_3
  try clear hcz15_4
  try clear hcz21_0
  try clear hcz21_1
  try clear hcz21_2
  try clear hcz21_3
  try clear hcz21_4
  try clear hcz23_0
  try clear hcz23_1
  try clear hcz23_2
  try clear hcz23_3
  try clear hcz23_4
  try clear hcz25_0
  try clear hcz25_1
  try clear hcz25_2
  try clear hcz25_3
  try clear hcz25_4
  try clear hfz11_0
  try clear hfz11_1
  try clear hfz11_2
  try clear hfz11_3
  try clear hfz11_4
  try clear hfz13_0
  try clear hfz13_1
  try clear hfz13_2
  try clear hfz13_3
  try clear hfz13_4
  try clear hfz15_0
  try clear hfz15_1
  try clear hfz15_2
  try clear hfz15_3
  try clear hfz15_4
  try clear hfz21_0
  try clear hfz21_1
  try clear hfz21_2
  try clear hfz21_3
  try clear hfz21_4
  try clear hfz23_0
  try clear hfz23_1
  try clear hfz23_2
  try clear hfz23_3
  try clear hfz23_4
  try clear hfz25_0
  try clear hfz25_1
  try clear hfz25_2
  try clear hfz25_3
  try clear hfz25_4
  obtain ⟨kq, x44_4, rfl, HA, HJ4, BK374, HB⟩ := hcut
  cases kq with
  | zero => exact absurd HA.out (by simp [groatref12_Get.j0])
  | succ kj4 =>
   have H := HA.out
   clear HA
   simp only [groatref12_Get.j0] at H
   by_cases c27 : x44_4 = true
   ·subst c27
    have H1 : (some ((⟨#[]⟩ : ByteArray), 0, 1)) = some (r1, r2, r3) := by rw [if_pos rfl] at H; exact H
    clear H
    have H := H1
    clear H1
    simp only [Option.some.injEq, Prod.mk.injEq] at H
    obtain ⟨rfl, rfl, rfl⟩ := H
    go_wp2
    go_ret3
    exact ⟨by first | rfl | (simp [errW_none, errW_some] <;> rfl) | (simp [*, errW_none, errW_some] <;> rfl), by repeat (first | (with_reducible first | exact HB.out | apply below_alloc | apply pw_below_drewN | apply below_drew1 | refine below_set ?_ GE374.out) | exact HB.out)⟩
   ·replace c27 := Bool.eq_false_iff.mpr c27
    subst c27
    have H1 : (if a1_2 = 1 then (groatref12_Get.j1 kj4 a0 a2 a3 a1_4 a1_0 a1_1 a1_2 a1_3 a1_4) else ((groatref07_Get.f kj4 a0 a1_2 a2 a3).bind fun bt377 => (if bt377.2.2 = 0 then (if bt377.1 < a1_3 then (some ((⟨#[]⟩ : ByteArray), 0, 5)) else (if bt377.1 > a1_4 then (some ((⟨#[]⟩ : ByteArray), 0, 5)) else (groatref12_Get.j1 kj4 a0 a2 bt377.2.1 bt377.1 a1_0 a1_1 a1_2 a1_3 a1_4))) else (some ((⟨#[]⟩ : ByteArray), 0, bt377.2.2))))) = some (r1, r2, r3) := by rw [if_neg (show ¬ (false = true) by decide)] at H; exact H
    clear H
    have H := H1
    clear H1
    have HC28 := Aside0.mk H
    clear H
    have hcz29_0 : wc.cell? ⟨gb374, 0, none⟩ = some (.int .i64 a1_0) := (blk_cell BK374.out 0).trans rfl
    have hcz29_1 : wc.cell? ⟨gb374, 1, none⟩ = some (.int .i64 a1_1) := (blk_cell BK374.out 1).trans rfl
    have hcz29_2 : wc.cell? ⟨gb374, 2, none⟩ = some (.int .i64 a1_2) := (blk_cell BK374.out 2).trans rfl
    have hcz29_3 : wc.cell? ⟨gb374, 3, none⟩ = some (.int .i64 a1_3) := (blk_cell BK374.out 3).trans rfl
    have hcz29_4 : wc.cell? ⟨gb374, 4, none⟩ = some (.int .i64 a1_4) := (blk_cell BK374.out 4).trans rfl
    have hfz29_0 := blk_frozen BK374.out 0
    have hfz29_1 := blk_frozen BK374.out 1
    have hfz29_2 := blk_frozen BK374.out 2
    have hfz29_3 := blk_frozen BK374.out 3
    have hfz29_4 := blk_frozen BK374.out 4
    go_upto_if 49 with (fail)
    go_cut [3, 11] (fun v3 v11 wc => ∃ (kq : Nat) (x3_27 : Int) (x11_27 : Int), v3 = .int .i64 x3_27 ∧ v11 = .int .i64 x11_27 ∧ Aside0 (groatref12_Get.j1 kq a0 a2 x3_27 x11_27 a1_0 a1_1 a1_2 a1_3 a1_4 = some (r1, r2, r3)) ∧ Aside0 (kq ≤ kj4) ∧ Aside0 (wc.heap[gb374]? = some (.cells #[.int .i64 a1_0, .int .i64 a1_1, .int .i64 a1_2, .int .i64 a1_3, .int .i64 a1_4] 23 (0, 0))) ∧ Aside0 (Below w.heap.size w wc))
    case first =>
     have H := HC28.out
     clear HC28
     by_cases c30 : a1_2 = 1
     ·rw [if_pos c30] at H
      have c30b0 : (a1_2 == 1) = true := beq_iff_eq.mpr c30
      have c30b1 : (a1_2 != 1) = false := bne_eq_false_iff_eq.mpr c30
      clear c30
      (first | rw [c30b0] | (simp only [i64_w, i32_w]; rw [c30b0]) | skip)
      have H' := Aside0.mk H
      clear H
      go_wp2
      go_meet
      case rel => exact ⟨_, (a3), (a1_4), (by first | rfl | (simp; done) | (simp [*]; done) | (simp [wrap64]; done)), (by first | rfl | (simp; done) | (simp [*]; done) | (simp [wrap64]; done)), H', ⟨by have := HJ4.out; first | omega | exact Nat.le_refl _⟩, ⟨by (with_reducible repeat (first | refine blk_drewN ?_ _ | refine blk_drew ?_ | refine blk_alloc ?_ _)); exact BK374.out⟩, ⟨by repeat (first | (with_reducible first | exact HB.out | apply below_alloc | apply pw_below_drewN | apply below_drew1 | refine below_set ?_ GE374.out) | exact HB.out)⟩⟩
     ·rw [if_neg c30] at H
      have c30b0 : (a1_2 == 1) = false := beq_eq_false_iff_ne.mpr c30
      have c30b1 : (a1_2 != 1) = true := bne_iff_ne.mpr c30
      (first | rw [c30b0] | (simp only [i64_w, i32_w]; rw [c30b0]) | skip)
      replace H := Option.bind_eq_some_iff.mp H
      obtain ⟨⟨t377, t378, t379⟩, A310, H⟩ := H
      replace H : (if t379 = 0 then (if t377 < a1_3 then (some ((⟨#[]⟩ : ByteArray), 0, 5)) else (if t377 > a1_4 then (some ((⟨#[]⟩ : ByteArray), 0, 5)) else (groatref12_Get.j1 kj4 a0 a2 t378 t377 a1_0 a1_1 a1_2 a1_3 a1_4))) else (some ((⟨#[]⟩ : ByteArray), 0, t379))) = some (r1, r2, r3) := H
      have A31 := Aside0.mk A310
      clear A310
      by_cases c32 : t379 = 0
      ·rw [if_pos c32] at H
       have c32b0 : (t379 == 0) = true := beq_iff_eq.mpr c32
       have c32b1 : (t379 != 0) = false := bne_eq_false_iff_eq.mpr c32
       clear c32
       by_cases c33 : t377 < a1_3
       ·rw [if_pos c33] at H
        have c33b0 : decide (t377 < a1_3) = true := decide_eq_true c33
        clear c33
        simp only [Option.some.injEq, Prod.mk.injEq] at H
        obtain ⟨rfl, rfl, rfl⟩ := H
        have hcz34_0 : wc.cell? ⟨gb374, 0, none⟩ = some (.int .i64 a1_0) := (blk_cell BK374.out 0).trans rfl
        have hcz34_1 : wc.cell? ⟨gb374, 1, none⟩ = some (.int .i64 a1_1) := (blk_cell BK374.out 1).trans rfl
        have hcz34_2 : wc.cell? ⟨gb374, 2, none⟩ = some (.int .i64 a1_2) := (blk_cell BK374.out 2).trans rfl
        have hcz34_3 : wc.cell? ⟨gb374, 3, none⟩ = some (.int .i64 a1_3) := (blk_cell BK374.out 3).trans rfl
        have hcz34_4 : wc.cell? ⟨gb374, 4, none⟩ = some (.int .i64 a1_4) := (blk_cell BK374.out 4).trans rfl
        have hfz34_0 := blk_frozen BK374.out 0
        have hfz34_1 := blk_frozen BK374.out 1
        have hfz34_2 := blk_frozen BK374.out 2
        have hfz34_3 := blk_frozen BK374.out 3
        have hfz34_4 := blk_frozen BK374.out 4
        go_wp2_with (first | ((with_reducible refine gate_callee (f := 44) rfl ?_); refine goesL_ (some 56) rfl rfl Try.func44 (by kernel_rfl) rfl #[.int .i64 a0, .int .i64 a1_2, .string a2, .int .i64 a3] rfl (by (try simp only [List.map_toArray, List.map_cons, List.map_nil]); first | done | rfl | (simp only [List.length_drop, List.length_take]; rfl)) ?_; (with_reducible refine (groatref07_Get.calls kj4 a0 a1_2 a2 a3 t377 t378 t379 _ A31.out).mono ?_); rintro e w35 ⟨rfl, hb⟩; refine ⟨_, rfl, ?_⟩; have n0_ := Aside0.mk (blk_below (g := gb374) (o := .cells #[.int .i64 a1_0, .int .i64 a1_1, .int .i64 a1_2, .int .i64 a1_3, .int .i64 a1_4] 23 (0, 0)) (by (with_reducible repeat (first | refine blk_drewN ?_ _ | refine blk_drew ?_ | refine blk_alloc ?_ _)); exact BK374.out) hb); have n1_ := Aside0.mk (below_step (by repeat (first | (with_reducible first | exact HB.out | apply below_alloc | apply pw_below_drewN | apply below_drew1 | refine below_set ?_ GE374.out) | exact HB.out)) hb); clear BK374; clear HB; have BK374 := n0_; have HB := n1_; clear n0_ n1_; (try clear hb); (try clear hb2); (try clear hk); (try clear hi); have hcz36_0 : w35.cell? ⟨gb374, 0, none⟩ = some (.int .i64 a1_0) := (blk_cell BK374.out 0).trans rfl; have hcz36_1 : w35.cell? ⟨gb374, 1, none⟩ = some (.int .i64 a1_1) := (blk_cell BK374.out 1).trans rfl; have hcz36_2 : w35.cell? ⟨gb374, 2, none⟩ = some (.int .i64 a1_2) := (blk_cell BK374.out 2).trans rfl; have hcz36_3 : w35.cell? ⟨gb374, 3, none⟩ = some (.int .i64 a1_3) := (blk_cell BK374.out 3).trans rfl; have hcz36_4 : w35.cell? ⟨gb374, 4, none⟩ = some (.int .i64 a1_4) := (blk_cell BK374.out 4).trans rfl; have hfz36_0 := blk_frozen BK374.out 0; have hfz36_1 := blk_frozen BK374.out 1; have hfz36_2 := blk_frozen BK374.out 2; have hfz36_3 := blk_frozen BK374.out 3; have hfz36_4 := blk_frozen BK374.out 4))
        go_ret3
        exact ⟨by first | rfl | (simp [errW_none, errW_some] <;> rfl) | (simp [*, errW_none, errW_some] <;> rfl), by repeat (first | (with_reducible first | exact HB.out | apply below_alloc | apply pw_below_drewN | apply below_drew1 | refine below_set ?_ GE374.out) | exact HB.out)⟩
       ·rw [if_neg c33] at H
        have c33b0 : decide (t377 < a1_3) = false := decide_eq_false c33
        clear c33
        by_cases c37 : t377 > a1_4
        ·rw [if_pos c37] at H
         have c37b0 : decide (a1_4 < t377) = true := decide_eq_true c37
         clear c37
         simp only [Option.some.injEq, Prod.mk.injEq] at H
         obtain ⟨rfl, rfl, rfl⟩ := H
         have hcz38_0 : wc.cell? ⟨gb374, 0, none⟩ = some (.int .i64 a1_0) := (blk_cell BK374.out 0).trans rfl
         have hcz38_1 : wc.cell? ⟨gb374, 1, none⟩ = some (.int .i64 a1_1) := (blk_cell BK374.out 1).trans rfl
         have hcz38_2 : wc.cell? ⟨gb374, 2, none⟩ = some (.int .i64 a1_2) := (blk_cell BK374.out 2).trans rfl
         have hcz38_3 : wc.cell? ⟨gb374, 3, none⟩ = some (.int .i64 a1_3) := (blk_cell BK374.out 3).trans rfl
         have hcz38_4 : wc.cell? ⟨gb374, 4, none⟩ = some (.int .i64 a1_4) := (blk_cell BK374.out 4).trans rfl
         have hfz38_0 := blk_frozen BK374.out 0
         have hfz38_1 := blk_frozen BK374.out 1
         have hfz38_2 := blk_frozen BK374.out 2
         have hfz38_3 := blk_frozen BK374.out 3
         have hfz38_4 := blk_frozen BK374.out 4
         go_wp2_with (first | ((with_reducible refine gate_callee (f := 44) rfl ?_); refine goesL_ (some 56) rfl rfl Try.func44 (by kernel_rfl) rfl #[.int .i64 a0, .int .i64 a1_2, .string a2, .int .i64 a3] rfl (by (try simp only [List.map_toArray, List.map_cons, List.map_nil]); first | done | rfl | (simp only [List.length_drop, List.length_take]; rfl)) ?_; (with_reducible refine (groatref07_Get.calls kj4 a0 a1_2 a2 a3 t377 t378 t379 _ A31.out).mono ?_); rintro e w39 ⟨rfl, hb⟩; refine ⟨_, rfl, ?_⟩; have n0_ := Aside0.mk (blk_below (g := gb374) (o := .cells #[.int .i64 a1_0, .int .i64 a1_1, .int .i64 a1_2, .int .i64 a1_3, .int .i64 a1_4] 23 (0, 0)) (by (with_reducible repeat (first | refine blk_drewN ?_ _ | refine blk_drew ?_ | refine blk_alloc ?_ _)); exact BK374.out) hb); have n1_ := Aside0.mk (below_step (by repeat (first | (with_reducible first | exact HB.out | apply below_alloc | apply pw_below_drewN | apply below_drew1 | refine below_set ?_ GE374.out) | exact HB.out)) hb); clear BK374; clear HB; have BK374 := n0_; have HB := n1_; clear n0_ n1_; (try clear hb); (try clear hb2); (try clear hk); (try clear hi); have hcz40_0 : w39.cell? ⟨gb374, 0, none⟩ = some (.int .i64 a1_0) := (blk_cell BK374.out 0).trans rfl; have hcz40_1 : w39.cell? ⟨gb374, 1, none⟩ = some (.int .i64 a1_1) := (blk_cell BK374.out 1).trans rfl; have hcz40_2 : w39.cell? ⟨gb374, 2, none⟩ = some (.int .i64 a1_2) := (blk_cell BK374.out 2).trans rfl; have hcz40_3 : w39.cell? ⟨gb374, 3, none⟩ = some (.int .i64 a1_3) := (blk_cell BK374.out 3).trans rfl; have hcz40_4 : w39.cell? ⟨gb374, 4, none⟩ = some (.int .i64 a1_4) := (blk_cell BK374.out 4).trans rfl; have hfz40_0 := blk_frozen BK374.out 0; have hfz40_1 := blk_frozen BK374.out 1; have hfz40_2 := blk_frozen BK374.out 2; have hfz40_3 := blk_frozen BK374.out 3; have hfz40_4 := blk_frozen BK374.out 4))
         go_ret3
         exact ⟨by first | rfl | (simp [errW_none, errW_some] <;> rfl) | (simp [*, errW_none, errW_some] <;> rfl), by repeat (first | (with_reducible first | exact HB.out | apply below_alloc | apply pw_below_drewN | apply below_drew1 | refine below_set ?_ GE374.out) | exact HB.out)⟩
        ·rw [if_neg c37] at H
         have c37b0 : decide (a1_4 < t377) = false := decide_eq_false c37
         clear c37
         have H' := Aside0.mk H
         clear H
         have hcz41_0 : wc.cell? ⟨gb374, 0, none⟩ = some (.int .i64 a1_0) := (blk_cell BK374.out 0).trans rfl
         have hcz41_1 : wc.cell? ⟨gb374, 1, none⟩ = some (.int .i64 a1_1) := (blk_cell BK374.out 1).trans rfl
         have hcz41_2 : wc.cell? ⟨gb374, 2, none⟩ = some (.int .i64 a1_2) := (blk_cell BK374.out 2).trans rfl
         have hcz41_3 : wc.cell? ⟨gb374, 3, none⟩ = some (.int .i64 a1_3) := (blk_cell BK374.out 3).trans rfl
         have hcz41_4 : wc.cell? ⟨gb374, 4, none⟩ = some (.int .i64 a1_4) := (blk_cell BK374.out 4).trans rfl
         have hfz41_0 := blk_frozen BK374.out 0
         have hfz41_1 := blk_frozen BK374.out 1
         have hfz41_2 := blk_frozen BK374.out 2
         have hfz41_3 := blk_frozen BK374.out 3
         have hfz41_4 := blk_frozen BK374.out 4
         go_wp2_with (first | ((with_reducible refine gate_callee (f := 44) rfl ?_); refine goesL_ (some 56) rfl rfl Try.func44 (by kernel_rfl) rfl #[.int .i64 a0, .int .i64 a1_2, .string a2, .int .i64 a3] rfl (by (try simp only [List.map_toArray, List.map_cons, List.map_nil]); first | done | rfl | (simp only [List.length_drop, List.length_take]; rfl)) ?_; (with_reducible refine (groatref07_Get.calls kj4 a0 a1_2 a2 a3 t377 t378 t379 _ A31.out).mono ?_); rintro e w42 ⟨rfl, hb⟩; refine ⟨_, rfl, ?_⟩; have n0_ := Aside0.mk (blk_below (g := gb374) (o := .cells #[.int .i64 a1_0, .int .i64 a1_1, .int .i64 a1_2, .int .i64 a1_3, .int .i64 a1_4] 23 (0, 0)) (by (with_reducible repeat (first | refine blk_drewN ?_ _ | refine blk_drew ?_ | refine blk_alloc ?_ _)); exact BK374.out) hb); have n1_ := Aside0.mk (below_step (by repeat (first | (with_reducible first | exact HB.out | apply below_alloc | apply pw_below_drewN | apply below_drew1 | refine below_set ?_ GE374.out) | exact HB.out)) hb); clear BK374; clear HB; have BK374 := n0_; have HB := n1_; clear n0_ n1_; (try clear hb); (try clear hb2); (try clear hk); (try clear hi); have hcz43_0 : w42.cell? ⟨gb374, 0, none⟩ = some (.int .i64 a1_0) := (blk_cell BK374.out 0).trans rfl; have hcz43_1 : w42.cell? ⟨gb374, 1, none⟩ = some (.int .i64 a1_1) := (blk_cell BK374.out 1).trans rfl; have hcz43_2 : w42.cell? ⟨gb374, 2, none⟩ = some (.int .i64 a1_2) := (blk_cell BK374.out 2).trans rfl; have hcz43_3 : w42.cell? ⟨gb374, 3, none⟩ = some (.int .i64 a1_3) := (blk_cell BK374.out 3).trans rfl; have hcz43_4 : w42.cell? ⟨gb374, 4, none⟩ = some (.int .i64 a1_4) := (blk_cell BK374.out 4).trans rfl; have hfz43_0 := blk_frozen BK374.out 0; have hfz43_1 := blk_frozen BK374.out 1; have hfz43_2 := blk_frozen BK374.out 2; have hfz43_3 := blk_frozen BK374.out 3; have hfz43_4 := blk_frozen BK374.out 4))
         go_meet
         case rel => exact ⟨_, (t378), (t377), (by first | rfl | (simp; done) | (simp [*]; done) | (simp [wrap64]; done)), (by first | rfl | (simp; done) | (simp [*]; done) | (simp [wrap64]; done)), H', ⟨by have := HJ4.out; first | omega | exact Nat.le_refl _⟩, ⟨by (with_reducible repeat (first | refine blk_drewN ?_ _ | refine blk_drew ?_ | refine blk_alloc ?_ _)); exact BK374.out⟩, ⟨by repeat (first | (with_reducible first | exact HB.out | apply below_alloc | apply pw_below_drewN | apply below_drew1 | refine below_set ?_ GE374.out) | exact HB.out)⟩⟩
      ·rw [if_neg c32] at H
       have c32b0 : (t379 == 0) = false := beq_eq_false_iff_ne.mpr c32
       have c32b1 : (t379 != 0) = true := bne_iff_ne.mpr c32
       simp only [Option.some.injEq, Prod.mk.injEq] at H
       obtain ⟨rfl, rfl, rfl⟩ := H
       have hcz44_0 : wc.cell? ⟨gb374, 0, none⟩ = some (.int .i64 a1_0) := (blk_cell BK374.out 0).trans rfl
       have hcz44_1 : wc.cell? ⟨gb374, 1, none⟩ = some (.int .i64 a1_1) := (blk_cell BK374.out 1).trans rfl
       have hcz44_2 : wc.cell? ⟨gb374, 2, none⟩ = some (.int .i64 a1_2) := (blk_cell BK374.out 2).trans rfl
       have hcz44_3 : wc.cell? ⟨gb374, 3, none⟩ = some (.int .i64 a1_3) := (blk_cell BK374.out 3).trans rfl
       have hcz44_4 : wc.cell? ⟨gb374, 4, none⟩ = some (.int .i64 a1_4) := (blk_cell BK374.out 4).trans rfl
       have hfz44_0 := blk_frozen BK374.out 0
       have hfz44_1 := blk_frozen BK374.out 1
       have hfz44_2 := blk_frozen BK374.out 2
       have hfz44_3 := blk_frozen BK374.out 3
       have hfz44_4 := blk_frozen BK374.out 4
       go_wp2_with (first | ((with_reducible refine gate_callee (f := 44) rfl ?_); refine goesL_ (some 56) rfl rfl Try.func44 (by kernel_rfl) rfl #[.int .i64 a0, .int .i64 a1_2, .string a2, .int .i64 a3] rfl (by (try simp only [List.map_toArray, List.map_cons, List.map_nil]); first | done | rfl | (simp only [List.length_drop, List.length_take]; rfl)) ?_; (with_reducible refine (groatref07_Get.calls kj4 a0 a1_2 a2 a3 t377 t378 t379 _ A31.out).mono ?_); rintro e w45 ⟨rfl, hb⟩; refine ⟨_, rfl, ?_⟩; have n0_ := Aside0.mk (blk_below (g := gb374) (o := .cells #[.int .i64 a1_0, .int .i64 a1_1, .int .i64 a1_2, .int .i64 a1_3, .int .i64 a1_4] 23 (0, 0)) (by (with_reducible repeat (first | refine blk_drewN ?_ _ | refine blk_drew ?_ | refine blk_alloc ?_ _)); exact BK374.out) hb); have n1_ := Aside0.mk (below_step (by repeat (first | (with_reducible first | exact HB.out | apply below_alloc | apply pw_below_drewN | apply below_drew1 | refine below_set ?_ GE374.out) | exact HB.out)) hb); clear BK374; clear HB; have BK374 := n0_; have HB := n1_; clear n0_ n1_; (try clear hb); (try clear hb2); (try clear hk); (try clear hi)))
       go_ret3
       exact ⟨by first | rfl | (simp [errW_none, errW_some] <;> rfl) | (simp [*, errW_none, errW_some] <;> rfl), by repeat (first | (with_reducible first | exact HB.out | apply below_alloc | apply pw_below_drewN | apply below_drew1 | refine below_set ?_ GE374.out) | exact HB.out)⟩
    case rest =>
     clear HC28
     try clear c1
     try clear c2
     try clear p2
     try clear c3
     try clear c4
     try clear p6
     try clear c7
     try clear c7b0
     try clear c7b1
     try clear c9
     try clear c9b0
     try clear c9b1
     try clear c10
     try clear c10b0
     try clear c17
     try clear c17b0
     try clear c17b1
     try clear c19
     try clear c19b0
     try clear c19b1
     try clear c20
     try clear c20b0
     try clear c24
     try clear c27
     try clear c30
     try clear c30b0
     try clear c30b1
     try clear c32
     try clear c32b0
     try clear c32b1
     try clear c33
     try clear c33b0
     try clear c37
     try clear c37b0
     try clear c44
     try clear hcz11_0
     try clear hcz11_1
     try clear hcz11_2
     try clear hcz11_3
     try clear hcz11_4
     try clear hcz13_0
     try clear hcz13_1
     try clear hcz13_2
     try clear hcz13_3
     try clear hcz13_4
     try clear hcz15_0
     try clear hcz15_1
     try clear hcz15_2
     try clear hcz15_3
     try clear hcz15_4
     try clear hcz21_0
     try clear hcz21_1
     try clear hcz21_2
     try clear hcz21_3
     try clear hcz21_4
     try clear hcz23_0
     try clear hcz23_1
     try clear hcz23_2
     try clear hcz23_3
     try clear hcz23_4
     try clear hcz25_0
     try clear hcz25_1
     try clear hcz25_2
     try clear hcz25_3
     try clear hcz25_4
     try clear hcz29_0
     try clear hcz29_1
     try clear hcz29_2
     try clear hcz29_3
     try clear hcz29_4
     try clear hcz34_0
     try clear hcz34_1
     try clear hcz34_2
     try clear hcz34_3
     try clear hcz34_4
     try clear hcz36_0
     try clear hcz36_1
     try clear hcz36_2
     try clear hcz36_3
     try clear hcz36_4
     try clear hcz38_0
     try clear hcz38_1
     try clear hcz38_2
     try clear hcz38_3
     try clear hcz38_4
     try clear hcz40_0
     try clear hcz40_1
     try clear hcz40_2
     try clear hcz40_3
     try clear hcz40_4
     try clear hcz41_0
     try clear hcz41_1
     try clear hcz41_2
     try clear hcz41_3
     try clear hcz41_4
     try clear hcz43_0
     try clear hcz43_1
     try clear hcz43_2
     try clear hcz43_3
     try clear hcz43_4
     try clear hcz44_0
     try clear hcz44_1
     try clear hcz44_2
     try clear hcz44_3
     try clear hcz44_4
     try clear hfz11_0
     try clear hfz11_1
     try clear hfz11_2
     try clear hfz11_3
     try clear hfz11_4
     try clear hfz13_0
     try clear hfz13_1
     try clear hfz13_2
     try clear hfz13_3
     try clear hfz13_4
     try clear hfz15_0
     try clear hfz15_1
     try clear hfz15_2
     try clear hfz15_3
     try clear hfz15_4
     try clear hfz21_0
     try clear hfz21_1
     try clear hfz21_2
     try clear hfz21_3
     try clear hfz21_4
     try clear hfz23_0
     try clear hfz23_1
     try clear hfz23_2
     try clear hfz23_3
     try clear hfz23_4
     try clear hfz25_0
     try clear hfz25_1
     try clear hfz25_2
     try clear hfz25_3
     try clear hfz25_4
     try clear hfz29_0
     try clear hfz29_1
     try clear hfz29_2
     try clear hfz29_3
     try clear hfz29_4
     try clear hfz34_0
     try clear hfz34_1
     try clear hfz34_2
     try clear hfz34_3
     try clear hfz34_4
     try clear hfz36_0
     try clear hfz36_1
     try clear hfz36_2
     try clear hfz36_3
     try clear hfz36_4
     try clear hfz38_0
     try clear hfz38_1
     try clear hfz38_2
     try clear hfz38_3
     try clear hfz38_4
     try clear hfz40_0
     try clear hfz40_1
     try clear hfz40_2
     try clear hfz40_3
     try clear hfz40_4
     try clear hfz41_0
     try clear hfz41_1
     try clear hfz41_2
     try clear hfz41_3
     try clear hfz41_4
     try clear hfz43_0
     try clear hfz43_1
     try clear hfz43_2
     try clear hfz43_3
     try clear hfz43_4
     try clear hfz44_0
     try clear hfz44_1
     try clear hfz44_2
     try clear hfz44_3
     try clear hfz44_4
     try clear p2
     try clear p6
     obtain ⟨kq, x3_27, x11_27, rfl, rfl, HA, HJ27, BK374, HB⟩ := hcut
     cases kq with
     | zero => exact absurd HA.out (by simp [groatref12_Get.j1])
     | succ kj27 =>
      have H := HA.out
      clear HA
      simp only [groatref12_Get.j1] at H
      have HC46 := Aside0.mk H
      clear H
      go_upto_region 13 with (fail)
      go_cut [82] (fun v82 wc => ∃ (kq : Nat) (x82_45 : Bool), v82 = .bool x82_45 ∧ Aside0 (groatref12_Get.j2 kq a0 a2 x3_27 x11_27 x11_27 x82_45 a1_0 a1_1 a1_2 a1_3 a1_4 = some (r1, r2, r3)) ∧ Aside0 (kq ≤ kj27) ∧ Aside0 (wc.heap[gb374]? = some (.cells #[.int .i64 a1_0, .int .i64 a1_1, .int .i64 a1_2, .int .i64 a1_3, .int .i64 a1_4] 23 (0, 0))) ∧ Aside0 (Below w.heap.size w wc))
      case first =>
       have H := HC46.out
       clear HC46
       by_cases c47 : a0 = 2
       ·rw [if_pos c47] at H
        have c47b0 : (a0 == 2) = true := beq_iff_eq.mpr c47
        have c47b1 : (a0 != 2) = false := bne_eq_false_iff_eq.mpr c47
        clear c47
        (first | rw [c47b0] | (simp only [i64_w, i32_w]; rw [c47b0]) | skip)
        have H' := Aside0.mk H
        clear H
        have hcz48_0 : wc.cell? ⟨gb374, 0, none⟩ = some (.int .i64 a1_0) := (blk_cell BK374.out 0).trans rfl
        have hcz48_1 : wc.cell? ⟨gb374, 1, none⟩ = some (.int .i64 a1_1) := (blk_cell BK374.out 1).trans rfl
        have hcz48_2 : wc.cell? ⟨gb374, 2, none⟩ = some (.int .i64 a1_2) := (blk_cell BK374.out 2).trans rfl
        have hcz48_3 : wc.cell? ⟨gb374, 3, none⟩ = some (.int .i64 a1_3) := (blk_cell BK374.out 3).trans rfl
        have hcz48_4 : wc.cell? ⟨gb374, 4, none⟩ = some (.int .i64 a1_4) := (blk_cell BK374.out 4).trans rfl
        have hfz48_0 := blk_frozen BK374.out 0
        have hfz48_1 := blk_frozen BK374.out 1
        have hfz48_2 := blk_frozen BK374.out 2
        have hfz48_3 := blk_frozen BK374.out 3
        have hfz48_4 := blk_frozen BK374.out 4
        go_wp2
        go_meet
        case rel => exact ⟨_, ((a1_1 == 1)), (by first | rfl | (simp; done) | (simp [*]; done) | (simp [wrap64]; done)), H', ⟨by have := HJ4.out; have := HJ27.out; first | omega | exact Nat.le_refl _⟩, ⟨by (with_reducible repeat (first | refine blk_drewN ?_ _ | refine blk_drew ?_ | refine blk_alloc ?_ _)); exact BK374.out⟩, ⟨by repeat (first | (with_reducible first | exact HB.out | apply below_alloc | apply pw_below_drewN | apply below_drew1 | refine below_set ?_ GE374.out) | exact HB.out)⟩⟩
       ·rw [if_neg c47] at H
        have c47b0 : (a0 == 2) = false := beq_eq_false_iff_ne.mpr c47
        have c47b1 : (a0 != 2) = true := bne_iff_ne.mpr c47
        (first | rw [c47b0] | (simp only [i64_w, i32_w]; rw [c47b0]) | skip)
        have H' := Aside0.mk H
        clear H
        go_wp2
        go_meet
        case rel => exact ⟨_, (false), (by first | rfl | (simp; done) | (simp [*]; done) | (simp [wrap64]; done)), H', ⟨by have := HJ4.out; have := HJ27.out; first | omega | exact Nat.le_refl _⟩, ⟨by (with_reducible repeat (first | refine blk_drewN ?_ _ | refine blk_drew ?_ | refine blk_alloc ?_ _)); exact BK374.out⟩, ⟨by repeat (first | (with_reducible first | exact HB.out | apply below_alloc | apply pw_below_drewN | apply below_drew1 | refine below_set ?_ GE374.out) | exact HB.out)⟩⟩
      case rest =>
       clear HC46
       try clear c1
       try clear c2
       try clear p2
       try clear c3
       try clear c4
       try clear p6
       try clear c7
       try clear c7b0
       try clear c7b1
       try clear c9
       try clear c9b0
       try clear c9b1
       try clear c10
       try clear c10b0
       try clear c17
       try clear c17b0
       try clear c17b1
       try clear c19
       try clear c19b0
       try clear c19b1
       try clear c20
       try clear c20b0
       try clear c24
       try clear c27
       try clear c30
       try clear c30b0
       try clear c30b1
       try clear c32
       try clear c32b0
       try clear c32b1
       try clear c33
       try clear c33b0
       try clear c37
       try clear c37b0
       try clear c44
       try clear c47
       try clear c47b0
       try clear c47b1
       try clear hcz11_0
       try clear hcz11_1
       try clear hcz11_2
       try clear hcz11_3
       try clear hcz11_4
       try clear hcz13_0
       try clear hcz13_1
       try clear hcz13_2
       try clear hcz13_3
       try clear hcz13_4
       try clear hcz15_0
       try clear hcz15_1
       try clear hcz15_2
       try clear hcz15_3
       try clear hcz15_4
       try clear hcz21_0
       try clear hcz21_1
       try clear hcz21_2
       try clear hcz21_3
       try clear hcz21_4
       try clear hcz23_0
       try clear hcz23_1
       try clear hcz23_2
       try clear hcz23_3
       try clear hcz23_4
       try clear hcz25_0
       try clear hcz25_1
       try clear hcz25_2
       try clear hcz25_3
       try clear hcz25_4
       try clear hcz29_0
       try clear hcz29_1
       try clear hcz29_2
       try clear hcz29_3
       try clear hcz29_4
       try clear hcz34_0
       try clear hcz34_1
       try clear hcz34_2
       try clear hcz34_3
       try clear hcz34_4
       try clear hcz36_0
       try clear hcz36_1
       try clear hcz36_2
       try clear hcz36_3
       try clear hcz36_4
       try clear hcz38_0
       try clear hcz38_1
       try clear hcz38_2
       try clear hcz38_3
       try clear hcz38_4
       try clear hcz40_0
       try clear hcz40_1
       try clear hcz40_2
       try clear hcz40_3
       try clear hcz40_4
       try clear hcz41_0
       try clear hcz41_1
       try clear hcz41_2
       try clear hcz41_3
       try clear hcz41_4
       try clear hcz43_0
       try clear hcz43_1
       try clear hcz43_2
       try clear hcz43_3
       try clear hcz43_4
       try clear hcz44_0
       try clear hcz44_1
       try clear hcz44_2
       try clear hcz44_3
       try clear hcz44_4
       try clear hcz48_0
       try clear hcz48_1
       try clear hcz48_2
       try clear hcz48_3
       try clear hcz48_4
       try clear hfz11_0
       try clear hfz11_1
       try clear hfz11_2
       try clear hfz11_3
       try clear hfz11_4
       try clear hfz13_0
       try clear hfz13_1
       try clear hfz13_2
       try clear hfz13_3
       try clear hfz13_4
       try clear hfz15_0
       try clear hfz15_1
       try clear hfz15_2
       try clear hfz15_3
       try clear hfz15_4
       try clear hfz21_0
       try clear hfz21_1
       try clear hfz21_2
       try clear hfz21_3
       try clear hfz21_4
       try clear hfz23_0
       try clear hfz23_1
       try clear hfz23_2
       try clear hfz23_3
       try clear hfz23_4
       try clear hfz25_0
       try clear hfz25_1
       try clear hfz25_2
       try clear hfz25_3
       try clear hfz25_4
       try clear hfz29_0
       try clear hfz29_1
       try clear hfz29_2
       try clear hfz29_3
       try clear hfz29_4
       try clear hfz34_0
       try clear hfz34_1
       try clear hfz34_2
       try clear hfz34_3
       try clear hfz34_4
       try clear hfz36_0
       try clear hfz36_1
       try clear hfz36_2
       try clear hfz36_3
       try clear hfz36_4
       try clear hfz38_0
       try clear hfz38_1
       try clear hfz38_2
       try clear hfz38_3
       try clear hfz38_4
       try clear hfz40_0
       try clear hfz40_1
       try clear hfz40_2
       try clear hfz40_3
       try clear hfz40_4
       try clear hfz41_0
       try clear hfz41_1
       try clear hfz41_2
       try clear hfz41_3
       try clear hfz41_4
       try clear hfz43_0
       try clear hfz43_1
       try clear hfz43_2
       try clear hfz43_3
       try clear hfz43_4
       try clear hfz44_0
       try clear hfz44_1
       try clear hfz44_2
       try clear hfz44_3
       try clear hfz44_4
       try clear hfz48_0
       try clear hfz48_1
       try clear hfz48_2
       try clear hfz48_3
       try clear hfz48_4
       try clear p2
       try clear p6
       obtain ⟨kq, x82_45, rfl, HA, HJ45, BK374, HB⟩ := hcut
       cases kq with
       | zero => exact absurd HA.out (by simp [groatref12_Get.j2])
       | succ kj45 =>
        have H := HA.out
        clear HA
        simp only [groatref12_Get.j2] at H
        have HC49 := Aside0.mk H
        clear H
        go_upto_if 82 with (fail)
        go_cut [15] (fun v15 wc => ∃ (kq : Nat) (x15_48 : Int), v15 = .int .i64 x15_48 ∧ Aside0 (groatref12_Get.j3 kq a0 a2 x3_27 x11_27 x15_48 a1_0 a1_1 a1_2 a1_3 a1_4 = some (r1, r2, r3)) ∧ Aside0 (kq ≤ kj45) ∧ Aside0 (wc.heap[gb374]? = some (.cells #[.int .i64 a1_0, .int .i64 a1_1, .int .i64 a1_2, .int .i64 a1_3, .int .i64 a1_4] 23 (0, 0))) ∧ Aside0 (Below w.heap.size w wc))
        case first =>
         have H := HC49.out
         clear HC49
         by_cases c50 : x82_45 = true
         ·subst c50
          have H1 : (groatref12_Get.j3 kj45 a0 a2 x3_27 x11_27 (wrap64 (Int.tdiv (wrap64 (x11_27 + 1)) 2)) a1_0 a1_1 a1_2 a1_3 a1_4) = some (r1, r2, r3) := by rw [if_pos rfl] at H; exact H
          clear H
          have H := H1
          clear H1
          have H' := Aside0.mk H
          clear H
          go_wp2
          go_meet
          case rel => exact ⟨_, (wrap64 (Int.tdiv (wrap64 (x11_27 + 1)) 2)), (by first | rfl | (simp; done) | (simp [*]; done) | (simp [wrap64]; done)), H', ⟨by have := HJ4.out; have := HJ27.out; have := HJ45.out; first | omega | exact Nat.le_refl _⟩, ⟨by (with_reducible repeat (first | refine blk_drewN ?_ _ | refine blk_drew ?_ | refine blk_alloc ?_ _)); exact BK374.out⟩, ⟨by repeat (first | (with_reducible first | exact HB.out | apply below_alloc | apply pw_below_drewN | apply below_drew1 | refine below_set ?_ GE374.out) | exact HB.out)⟩⟩
         ·replace c50 := Bool.eq_false_iff.mpr c50
          subst c50
          have H1 : (groatref12_Get.j3 kj45 a0 a2 x3_27 x11_27 x11_27 a1_0 a1_1 a1_2 a1_3 a1_4) = some (r1, r2, r3) := by rw [if_neg (show ¬ (false = true) by decide)] at H; exact H
          clear H
          have H := H1
          clear H1
          have H' := Aside0.mk H
          clear H
          go_wp2
          go_meet
          case rel => exact ⟨_, (x11_27), (by first | rfl | (simp; done) | (simp [*]; done) | (simp [wrap64]; done)), H', ⟨by have := HJ4.out; have := HJ27.out; have := HJ45.out; first | omega | exact Nat.le_refl _⟩, ⟨by (with_reducible repeat (first | refine blk_drewN ?_ _ | refine blk_drew ?_ | refine blk_alloc ?_ _)); exact BK374.out⟩, ⟨by repeat (first | (with_reducible first | exact HB.out | apply below_alloc | apply pw_below_drewN | apply below_drew1 | refine below_set ?_ GE374.out) | exact HB.out)⟩⟩
        case rest =>
         clear HC49
         try clear c1
         try clear c2
         try clear p2
         try clear c3
         try clear c4
         try clear c5
         try clear p6
         try clear c7
         try clear c7b0
         try clear c7b1
         try clear c9
         try clear c9b0
         try clear c9b1
         try clear c10
         try clear c10b0
         try clear c17
         try clear c17b0
         try clear c17b1
         try clear c19
         try clear c19b0
         try clear c19b1
         try clear c20
         try clear c20b0
         try clear c24
         try clear c27
         try clear c30
         try clear c30b0
         try clear c30b1
         try clear c32
         try clear c32b0
         try clear c32b1
         try clear c33
         try clear c33b0
         try clear c37
         try clear c37b0
         try clear c44
         try clear c47
         try clear c47b0
         try clear c47b1
         try clear c50
         try clear hcz11_0
         try clear hcz11_1
         try clear hcz11_2
         try clear hcz11_3
         try clear hcz11_4
         try clear hcz13_0
         try clear hcz13_1
         try clear hcz13_2
         try clear hcz13_3
         try clear hcz13_4
         try clear hcz15_0
         try clear hcz15_1
         try clear hcz15_2
         try clear hcz15_3
         try clear hcz15_4
         try clear hcz21_0
         try clear hcz21_1
         try clear hcz21_2
         try clear hcz21_3
         try clear hcz21_4
         try clear hcz23_0
         try clear hcz23_1
         try clear hcz23_2
         try clear hcz23_3
         try clear hcz23_4
         try clear hcz25_0
         try clear hcz25_1
         try clear hcz25_2
         try clear hcz25_3
         try clear hcz25_4
         try clear hcz29_0
         try clear hcz29_1
         try clear hcz29_2
         try clear hcz29_3
         try clear hcz29_4
         try clear hcz34_0
         try clear hcz34_1
         try clear hcz34_2
         try clear hcz34_3
         try clear hcz34_4
         try clear hcz36_0
         try clear hcz36_1
         try clear hcz36_2
         try clear hcz36_3
         try clear hcz36_4
         try clear hcz38_0
         try clear hcz38_1
         try clear hcz38_2
         try clear hcz38_3
         try clear hcz38_4
         try clear hcz40_0
         try clear hcz40_1
         try clear hcz40_2
         try clear hcz40_3
         try clear hcz40_4
         try clear hcz41_0
         try clear hcz41_1
         try clear hcz41_2
         try clear hcz41_3
         try clear hcz41_4
         try clear hcz43_0
         try clear hcz43_1
         try clear hcz43_2
         try clear hcz43_3
         try clear hcz43_4
         try clear hcz44_0
         try clear hcz44_1
         try clear hcz44_2
         try clear hcz44_3
         try clear hcz44_4
         try clear hcz48_0
         try clear hcz48_1
         try clear hcz48_2
         try clear hcz48_3
         try clear hcz48_4
         try clear hfz11_0
         try clear hfz11_1
         try clear hfz11_2
         try clear hfz11_3
         try clear hfz11_4
         try clear hfz13_0
         try clear hfz13_1
         try clear hfz13_2
         try clear hfz13_3
         try clear hfz13_4
         try clear hfz15_0
         try clear hfz15_1
         try clear hfz15_2
         try clear hfz15_3
         try clear hfz15_4
         try clear hfz21_0
         try clear hfz21_1
         try clear hfz21_2
         try clear hfz21_3
         try clear hfz21_4
         try clear hfz23_0
         try clear hfz23_1
         try clear hfz23_2
         try clear hfz23_3
         try clear hfz23_4
         try clear hfz25_0
         try clear hfz25_1
         try clear hfz25_2
         try clear hfz25_3
         try clear hfz25_4
         try clear hfz29_0
         try clear hfz29_1
         try clear hfz29_2
         try clear hfz29_3
         try clear hfz29_4
         try clear hfz34_0
         try clear hfz34_1
         try clear hfz34_2
         try clear hfz34_3
         try clear hfz34_4
         try clear hfz36_0
         try clear hfz36_1
         try clear hfz36_2
         try clear hfz36_3
         try clear hfz36_4
         try clear hfz38_0
         try clear hfz38_1
         try clear hfz38_2
         try clear hfz38_3
         try clear hfz38_4
         try clear hfz40_0
         try clear hfz40_1
         try clear hfz40_2
         try clear hfz40_3
         try clear hfz40_4
         try clear hfz41_0
         try clear hfz41_1
         try clear hfz41_2
         try clear hfz41_3
         try clear hfz41_4
         try clear hfz43_0
         try clear hfz43_1
         try clear hfz43_2
         try clear hfz43_3
         try clear hfz43_4
         try clear hfz44_0
         try clear hfz44_1
         try clear hfz44_2
         try clear hfz44_3
         try clear hfz44_4
         try clear hfz48_0
         try clear hfz48_1
         try clear hfz48_2
         try clear hfz48_3
         try clear hfz48_4
         try clear p2
         try clear p6
         obtain ⟨kq, x15_48, rfl, HA, HJ48, BK374, HB⟩ := hcut
         cases kq with
         | zero => exact absurd HA.out (by simp [groatref12_Get.j3])
         | succ kj48 =>
          have H := HA.out
          clear HA
          simp only [groatref12_Get.j3] at H
          have HC51 := Aside0.mk H
          clear H
          go_upto_region 15 with (fail)
          go_cut [92] (fun v92 wc => ∃ (kq : Nat) (x92_50 : Bool), v92 = .bool x92_50 ∧ Aside0 (groatref12_Get.j4 kq a0 a2 x3_27 x11_27 x15_48 x92_50 a1_0 a1_1 a1_2 a1_3 a1_4 = some (r1, r2, r3)) ∧ Aside0 (kq ≤ kj48) ∧ Aside0 (wc.heap[gb374]? = some (.cells #[.int .i64 a1_0, .int .i64 a1_1, .int .i64 a1_2, .int .i64 a1_3, .int .i64 a1_4] 23 (0, 0))) ∧ Aside0 (Below w.heap.size w wc))
          case first =>
           have H := HC51.out
           clear HC51
           by_cases c52 : a0 = 1
           ·rw [if_pos c52] at H
            have c52b0 : (a0 == 1) = true := beq_iff_eq.mpr c52
            have c52b1 : (a0 != 1) = false := bne_eq_false_iff_eq.mpr c52
            clear c52
            (first | rw [c52b0] | (simp only [i64_w, i32_w]; rw [c52b0]) | skip)
            have H' := Aside0.mk H
            clear H
            have hcz53_0 : wc.cell? ⟨gb374, 0, none⟩ = some (.int .i64 a1_0) := (blk_cell BK374.out 0).trans rfl
            have hcz53_1 : wc.cell? ⟨gb374, 1, none⟩ = some (.int .i64 a1_1) := (blk_cell BK374.out 1).trans rfl
            have hcz53_2 : wc.cell? ⟨gb374, 2, none⟩ = some (.int .i64 a1_2) := (blk_cell BK374.out 2).trans rfl
            have hcz53_3 : wc.cell? ⟨gb374, 3, none⟩ = some (.int .i64 a1_3) := (blk_cell BK374.out 3).trans rfl
            have hcz53_4 : wc.cell? ⟨gb374, 4, none⟩ = some (.int .i64 a1_4) := (blk_cell BK374.out 4).trans rfl
            have hfz53_0 := blk_frozen BK374.out 0
            have hfz53_1 := blk_frozen BK374.out 1
            have hfz53_2 := blk_frozen BK374.out 2
            have hfz53_3 := blk_frozen BK374.out 3
            have hfz53_4 := blk_frozen BK374.out 4
            go_wp2
            go_meet
            case rel => exact ⟨_, (decide (a1_1 ≥ 5)), (by first | rfl | (simp; done) | (simp [*]; done) | (simp [wrap64]; done)), H', ⟨by have := HJ4.out; have := HJ27.out; have := HJ45.out; have := HJ48.out; first | omega | exact Nat.le_refl _⟩, ⟨by (with_reducible repeat (first | refine blk_drewN ?_ _ | refine blk_drew ?_ | refine blk_alloc ?_ _)); exact BK374.out⟩, ⟨by repeat (first | (with_reducible first | exact HB.out | apply below_alloc | apply pw_below_drewN | apply below_drew1 | refine below_set ?_ GE374.out) | exact HB.out)⟩⟩
           ·rw [if_neg c52] at H
            have c52b0 : (a0 == 1) = false := beq_eq_false_iff_ne.mpr c52
            have c52b1 : (a0 != 1) = true := bne_iff_ne.mpr c52
            (first | rw [c52b0] | (simp only [i64_w, i32_w]; rw [c52b0]) | skip)
            have H' := Aside0.mk H
            clear H
            go_wp2
            go_meet
            case rel => exact ⟨_, (false), (by first | rfl | (simp; done) | (simp [*]; done) | (simp [wrap64]; done)), H', ⟨by have := HJ4.out; have := HJ27.out; have := HJ45.out; have := HJ48.out; first | omega | exact Nat.le_refl _⟩, ⟨by (with_reducible repeat (first | refine blk_drewN ?_ _ | refine blk_drew ?_ | refine blk_alloc ?_ _)); exact BK374.out⟩, ⟨by repeat (first | (with_reducible first | exact HB.out | apply below_alloc | apply pw_below_drewN | apply below_drew1 | refine below_set ?_ GE374.out) | exact HB.out)⟩⟩
          case rest =>
           clear HC51
           try clear c1
           try clear c2
           try clear p2
           try clear c3
           try clear c4
           try clear c5
           try clear p6
           try clear c7
           try clear c7b0
           try clear c7b1
           try clear c9
           try clear c9b0
           try clear c9b1
           try clear c10
           try clear c10b0
           try clear c17
           try clear c17b0
           try clear c17b1
           try clear c19
           try clear c19b0
           try clear c19b1
           try clear c20
           try clear c20b0
           try clear c24
           try clear c27
           try clear c30
           try clear c30b0
           try clear c30b1
           try clear c32
           try clear c32b0
           try clear c32b1
           try clear c33
           try clear c33b0
           try clear c37
           try clear c37b0
           try clear c44
           try clear c47
           try clear c47b0
           try clear c47b1
           try clear c50
           try clear c52
           try clear c52b0
           try clear c52b1
           try clear hcz11_0
           try clear hcz11_1
           try clear hcz11_2
           try clear hcz11_3
           try clear hcz11_4
           try clear hcz13_0
           try clear hcz13_1
           try clear hcz13_2
           try clear hcz13_3
           try clear hcz13_4
           try clear hcz15_0
           try clear hcz15_1
           try clear hcz15_2
           try clear hcz15_3
           try clear hcz15_4
           try clear hcz21_0
           try clear hcz21_1
           try clear hcz21_2
           try clear hcz21_3
           try clear hcz21_4
           try clear hcz23_0
           try clear hcz23_1
           try clear hcz23_2
           try clear hcz23_3
           try clear hcz23_4
           try clear hcz25_0
           try clear hcz25_1
           try clear hcz25_2
           try clear hcz25_3
           try clear hcz25_4
           try clear hcz29_0
           try clear hcz29_1
           try clear hcz29_2
           try clear hcz29_3
           try clear hcz29_4
           try clear hcz34_0
           try clear hcz34_1
           try clear hcz34_2
           try clear hcz34_3
           try clear hcz34_4
           try clear hcz36_0
           try clear hcz36_1
           try clear hcz36_2
           try clear hcz36_3
           try clear hcz36_4
           try clear hcz38_0
           try clear hcz38_1
           try clear hcz38_2
           try clear hcz38_3
           try clear hcz38_4
           try clear hcz40_0
           try clear hcz40_1
           try clear hcz40_2
           try clear hcz40_3
           try clear hcz40_4
           try clear hcz41_0
           try clear hcz41_1
           try clear hcz41_2
           try clear hcz41_3
           try clear hcz41_4
           try clear hcz43_0
           try clear hcz43_1
           try clear hcz43_2
           try clear hcz43_3
           try clear hcz43_4
           try clear hcz44_0
           try clear hcz44_1
           try clear hcz44_2
           try clear hcz44_3
           try clear hcz44_4
           try clear hcz48_0
           try clear hcz48_1
           try clear hcz48_2
           try clear hcz48_3
           try clear hcz48_4
           try clear hcz53_0
           try clear hcz53_1
           try clear hcz53_2
           try clear hcz53_3
           try clear hcz53_4
           try clear hfz11_0
           try clear hfz11_1
           try clear hfz11_2
           try clear hfz11_3
           try clear hfz11_4
           try clear hfz13_0
           try clear hfz13_1
           try clear hfz13_2
           try clear hfz13_3
           try clear hfz13_4
           try clear hfz15_0
           try clear hfz15_1
           try clear hfz15_2
           try clear hfz15_3
           try clear hfz15_4
           try clear hfz21_0
           try clear hfz21_1
           try clear hfz21_2
           try clear hfz21_3
           try clear hfz21_4
           try clear hfz23_0
           try clear hfz23_1
           try clear hfz23_2
           try clear hfz23_3
           try clear hfz23_4
           try clear hfz25_0
           try clear hfz25_1
           try clear hfz25_2
           try clear hfz25_3
           try clear hfz25_4
           try clear hfz29_0
           try clear hfz29_1
           try clear hfz29_2
           try clear hfz29_3
           try clear hfz29_4
           try clear hfz34_0
           try clear hfz34_1
           try clear hfz34_2
           try clear hfz34_3
           try clear hfz34_4
           try clear hfz36_0
           try clear hfz36_1
           try clear hfz36_2
           try clear hfz36_3
           try clear hfz36_4
           try clear hfz38_0
           try clear hfz38_1
           try clear hfz38_2
           try clear hfz38_3
           try clear hfz38_4
           try clear hfz40_0
           try clear hfz40_1
           try clear hfz40_2
           try clear hfz40_3
           try clear hfz40_4
           try clear hfz41_0
           try clear hfz41_1
           try clear hfz41_2
           try clear hfz41_3
           try clear hfz41_4
           try clear hfz43_0
           try clear hfz43_1
           try clear hfz43_2
           try clear hfz43_3
           try clear hfz43_4
           try clear hfz44_0
           try clear hfz44_1
           try clear hfz44_2
           try clear hfz44_3
           try clear hfz44_4
           try clear hfz48_0
           try clear hfz48_1
           try clear hfz48_2
           try clear hfz48_3
           try clear hfz48_4
           try clear hfz53_0
           try clear hfz53_1
           try clear hfz53_2
           try clear hfz53_3
           try clear hfz53_4
           try clear p2
           try clear p6
           obtain ⟨kq, x92_50, rfl, HA, HJ50, BK374, HB⟩ := hcut
           cases kq with
           | zero => exact absurd HA.out (by simp [groatref12_Get.j4])
           | succ kj50 =>
            have H := HA.out
            clear HA
            simp only [groatref12_Get.j4] at H
            have HC54 := Aside0.mk H
            clear H
            go_upto_if 92 with (fail)
            go_cut [15] (fun v15 wc => ∃ (kq : Nat) (x15_53 : Int), v15 = .int .i64 x15_53 ∧ Aside0 (groatref12_Get.j5 kq a0 a2 x3_27 x11_27 x15_53 a1_0 a1_1 a1_2 a1_3 a1_4 = some (r1, r2, r3)) ∧ Aside0 (kq ≤ kj50) ∧ Aside0 (wc.heap[gb374]? = some (.cells #[.int .i64 a1_0, .int .i64 a1_1, .int .i64 a1_2, .int .i64 a1_3, .int .i64 a1_4] 23 (0, 0))) ∧ Aside0 (Below w.heap.size w wc))
            case first =>
             have H := HC54.out
             clear HC54
             by_cases c55 : x92_50 = true
             ·subst c55
              have H1 : (groatref12_Get.j5 kj50 a0 a2 x3_27 x11_27 (wrap64 (x11_27 + x11_27)) a1_0 a1_1 a1_2 a1_3 a1_4) = some (r1, r2, r3) := by rw [if_pos rfl] at H; exact H
              clear H
              have H := H1
              clear H1
              have H' := Aside0.mk H
              clear H
              go_wp2
              go_meet
              case rel => exact ⟨_, (wrap64 (x11_27 + x11_27)), (by first | rfl | (simp; done) | (simp [*]; done) | (simp [wrap64]; done)), H', ⟨by have := HJ4.out; have := HJ27.out; have := HJ45.out; have := HJ48.out; have := HJ50.out; first | omega | exact Nat.le_refl _⟩, ⟨by (with_reducible repeat (first | refine blk_drewN ?_ _ | refine blk_drew ?_ | refine blk_alloc ?_ _)); exact BK374.out⟩, ⟨by repeat (first | (with_reducible first | exact HB.out | apply below_alloc | apply pw_below_drewN | apply below_drew1 | refine below_set ?_ GE374.out) | exact HB.out)⟩⟩
             ·replace c55 := Bool.eq_false_iff.mpr c55
              subst c55
              have H1 : (groatref12_Get.j5 kj50 a0 a2 x3_27 x11_27 x15_48 a1_0 a1_1 a1_2 a1_3 a1_4) = some (r1, r2, r3) := by rw [if_neg (show ¬ (false = true) by decide)] at H; exact H
              clear H
              have H := H1
              clear H1
              have H' := Aside0.mk H
              clear H
              go_wp2
              go_meet
              case rel => exact ⟨_, (x15_48), (by first | rfl | (simp; done) | (simp [*]; done) | (simp [wrap64]; done)), H', ⟨by have := HJ4.out; have := HJ27.out; have := HJ45.out; have := HJ48.out; have := HJ50.out; first | omega | exact Nat.le_refl _⟩, ⟨by (with_reducible repeat (first | refine blk_drewN ?_ _ | refine blk_drew ?_ | refine blk_alloc ?_ _)); exact BK374.out⟩, ⟨by repeat (first | (with_reducible first | exact HB.out | apply below_alloc | apply pw_below_drewN | apply below_drew1 | refine below_set ?_ GE374.out) | exact HB.out)⟩⟩
            case rest =>
             clear HC54
             try clear c1
             try clear c2
             try clear p2
             try clear c3
             try clear c4
             try clear c5
             try clear p6
             try clear c7
             try clear c7b0
             try clear c7b1
             try clear c9
             try clear c9b0
             try clear c9b1
             try clear c10
             try clear c10b0
             try clear c17
             try clear c17b0
             try clear c17b1
             try clear c19
             try clear c19b0
             try clear c19b1
             try clear c20
             try clear c20b0
             try clear c24
             try clear c27
             try clear c30
             try clear c30b0
             try clear c30b1
             try clear c32
             try clear c32b0
             try clear c32b1
             try clear c33
             try clear c33b0
             try clear c37
             try clear c37b0
             try clear c44
             try clear c47
             try clear c47b0
             try clear c47b1
             try clear c50
             try clear c52
             try clear c52b0
             try clear c52b1
             try clear c55
             try clear hcz11_0
             try clear hcz11_1
             try clear hcz11_2
             try clear hcz11_3
             try clear hcz11_4
             try clear hcz13_0
             try clear hcz13_1
             try clear hcz13_2
             try clear hcz13_3
             try clear hcz13_4
             try clear hcz15_0
             try clear hcz15_1
             try clear hcz15_2
             try clear hcz15_3
             try clear hcz15_4
             try clear hcz21_0
             try clear hcz21_1
             try clear hcz21_2
             try clear hcz21_3
             try clear hcz21_4
             try clear hcz23_0
             try clear hcz23_1
             try clear hcz23_2
             try clear hcz23_3
             try clear hcz23_4
             try clear hcz25_0
             try clear hcz25_1
             try clear hcz25_2
             try clear hcz25_3
             try clear hcz25_4
             try clear hcz29_0
             try clear hcz29_1
             try clear hcz29_2
             try clear hcz29_3
             try clear hcz29_4
             try clear hcz34_0
             try clear hcz34_1
             try clear hcz34_2
             try clear hcz34_3
             try clear hcz34_4
             try clear hcz36_0
             try clear hcz36_1
             try clear hcz36_2
             try clear hcz36_3
             try clear hcz36_4
             try clear hcz38_0
             try clear hcz38_1
             try clear hcz38_2
             try clear hcz38_3
             try clear hcz38_4
             try clear hcz40_0
             try clear hcz40_1
             try clear hcz40_2
             try clear hcz40_3
             try clear hcz40_4
             try clear hcz41_0
             try clear hcz41_1
             try clear hcz41_2
             try clear hcz41_3
             try clear hcz41_4
             try clear hcz43_0
             try clear hcz43_1
             try clear hcz43_2
             try clear hcz43_3
             try clear hcz43_4
             try clear hcz44_0
             try clear hcz44_1
             try clear hcz44_2
             try clear hcz44_3
             try clear hcz44_4
             try clear hcz48_0
             try clear hcz48_1
             try clear hcz48_2
             try clear hcz48_3
             try clear hcz48_4
             try clear hcz53_0
             try clear hcz53_1
             try clear hcz53_2
             try clear hcz53_3
             try clear hcz53_4
             try clear hfz11_0
             try clear hfz11_1
             try clear hfz11_2
             try clear hfz11_3
             try clear hfz11_4
             try clear hfz13_0
             try clear hfz13_1
             try clear hfz13_2
             try clear hfz13_3
             try clear hfz13_4
             try clear hfz15_0
             try clear hfz15_1
             try clear hfz15_2
             try clear hfz15_3
             try clear hfz15_4
             try clear hfz21_0
             try clear hfz21_1
             try clear hfz21_2
             try clear hfz21_3
             try clear hfz21_4
             try clear hfz23_0
             try clear hfz23_1
             try clear hfz23_2
             try clear hfz23_3
             try clear hfz23_4
             try clear hfz25_0
             try clear hfz25_1
             try clear hfz25_2
             try clear hfz25_3
             try clear hfz25_4
             try clear hfz29_0
             try clear hfz29_1
             try clear hfz29_2
             try clear hfz29_3
             try clear hfz29_4
             try clear hfz34_0
             try clear hfz34_1
             try clear hfz34_2
             try clear hfz34_3
             try clear hfz34_4
             try clear hfz36_0
             try clear hfz36_1
             try clear hfz36_2
             try clear hfz36_3
             try clear hfz36_4
             try clear hfz38_0
             try clear hfz38_1
             try clear hfz38_2
             try clear hfz38_3
             try clear hfz38_4
             try clear hfz40_0
             try clear hfz40_1
             try clear hfz40_2
             try clear hfz40_3
             try clear hfz40_4
             try clear hfz41_0
             try clear hfz41_1
             try clear hfz41_2
             try clear hfz41_3
             try clear hfz41_4
             try clear hfz43_0
             try clear hfz43_1
             try clear hfz43_2
             try clear hfz43_3
             try clear hfz43_4
             try clear hfz44_0
             try clear hfz44_1
             try clear hfz44_2
             try clear hfz44_3
             try clear hfz44_4
             try clear hfz48_0
             try clear hfz48_1
             try clear hfz48_2
             try clear hfz48_3
             try clear hfz48_4
             try clear hfz53_0
             try clear hfz53_1
             try clear hfz53_2
             try clear hfz53_3
             try clear hfz53_4
             try clear p2
             try clear p6
             obtain ⟨kq, x15_53, rfl, HA, HJ53, BK374, HB⟩ := hcut
             cases kq with
             | zero => exact absurd HA.out (by simp [groatref12_Get.j5])
             | succ kj53 =>
              have H := HA.out
              clear HA
              simp only [groatref12_Get.j5] at H
              by_cases c56 : (wrap64 ((a2.size : Int) - x3_27)) < x15_53
              ·rw [if_pos c56] at H
               have c56b0 : decide ((wrap64 ((a2.size : Int) - x3_27)) < x15_53) = true := decide_eq_true c56
               clear c56
               simp only [Option.some.injEq, Prod.mk.injEq] at H
               obtain ⟨rfl, rfl, rfl⟩ := H
               go_wp2
               go_ret3
               exact ⟨by first | rfl | (simp [errW_none, errW_some] <;> rfl) | (simp [*, errW_none, errW_some] <;> rfl), by repeat (first | (with_reducible first | exact HB.out | apply below_alloc | apply pw_below_drewN | apply below_drew1 | refine below_set ?_ GE374.out) | exact HB.out)⟩
              ·rw [if_neg c56] at H
               have c56b0 : decide ((wrap64 ((a2.size : Int) - x3_27)) < x15_53) = false := decide_eq_false c56
               clear c56
               by_cases c57 : 0 ≤ x3_27
               ·rw [if_pos c57] at H
                have c57b0 := eq_true c57
                have c57b1 : decide (0 ≤ x3_27) = true := decide_eq_true c57
                clear c57
                by_cases c58 : x3_27 ≤ (wrap64 (x3_27 + x15_53))
                ·rw [if_pos c58] at H
                 have c58b0 := eq_true c58
                 have c58b1 : decide (x3_27 ≤ (wrap64 (x3_27 + x15_53))) = true := decide_eq_true c58
                 by_cases c59 : (wrap64 (x3_27 + x15_53)) ≤ (a2.size : Int)
                 ·rw [if_pos c59] at H
                  have c59b0 := eq_true c59
                  have c59b1 : decide ((wrap64 (x3_27 + x15_53)) ≤ (a2.size : Int)) = true := decide_eq_true c59
                  have HC60 := Aside0.mk H
                  clear H
                  go_upto_region 20 with (fail)
                  go_cut [114] (fun v114 wc => ∃ (kq : Nat) (x114_59 : Bool), v114 = .bool x114_59 ∧ Aside0 (groatref12_Get.j6 kq a0 x3_27 x11_27 x15_53 (a2.extract (x3_27 : Int).toNat ((wrap64 (x3_27 + x15_53)) : Int).toNat) x114_59 a1_0 a1_1 a1_2 a1_3 a1_4 = some (r1, r2, r3)) ∧ Aside0 (kq ≤ kj53) ∧ Aside0 (wc.heap[gb374]? = some (.cells #[.int .i64 a1_0, .int .i64 a1_1, .int .i64 a1_2, .int .i64 a1_3, .int .i64 a1_4] 23 (0, 0))) ∧ Aside0 (Below w.heap.size w wc))
                  case first =>
                   have H := HC60.out
                   clear HC60
                   by_cases c61 : a0 = 2
                   ·rw [if_pos c61] at H
                    have c61b0 : (a0 == 2) = true := beq_iff_eq.mpr c61
                    have c61b1 : (a0 != 2) = false := bne_eq_false_iff_eq.mpr c61
                    clear c61
                    (first | rw [c61b0] | (simp only [i64_w, i32_w]; rw [c61b0]) | skip)
                    have H' := Aside0.mk H
                    clear H
                    have hcz62_0 : wc.cell? ⟨gb374, 0, none⟩ = some (.int .i64 a1_0) := (blk_cell BK374.out 0).trans rfl
                    have hcz62_1 : wc.cell? ⟨gb374, 1, none⟩ = some (.int .i64 a1_1) := (blk_cell BK374.out 1).trans rfl
                    have hcz62_2 : wc.cell? ⟨gb374, 2, none⟩ = some (.int .i64 a1_2) := (blk_cell BK374.out 2).trans rfl
                    have hcz62_3 : wc.cell? ⟨gb374, 3, none⟩ = some (.int .i64 a1_3) := (blk_cell BK374.out 3).trans rfl
                    have hcz62_4 : wc.cell? ⟨gb374, 4, none⟩ = some (.int .i64 a1_4) := (blk_cell BK374.out 4).trans rfl
                    have hfz62_0 := blk_frozen BK374.out 0
                    have hfz62_1 := blk_frozen BK374.out 1
                    have hfz62_2 := blk_frozen BK374.out 2
                    have hfz62_3 := blk_frozen BK374.out 3
                    have hfz62_4 := blk_frozen BK374.out 4
                    go_wp2
                    go_meet
                    case rel => exact ⟨_, ((a1_1 == 1)), (by first | rfl | (simp; done) | (simp [*]; done) | (simp [wrap64]; done)), H', ⟨by have := HJ4.out; have := HJ27.out; have := HJ45.out; have := HJ48.out; have := HJ50.out; have := HJ53.out; first | omega | exact Nat.le_refl _⟩, ⟨by (with_reducible repeat (first | refine blk_drewN ?_ _ | refine blk_drew ?_ | refine blk_alloc ?_ _)); exact BK374.out⟩, ⟨by repeat (first | (with_reducible first | exact HB.out | apply below_alloc | apply pw_below_drewN | apply below_drew1 | refine below_set ?_ GE374.out) | exact HB.out)⟩⟩
                   ·rw [if_neg c61] at H
                    have c61b0 : (a0 == 2) = false := beq_eq_false_iff_ne.mpr c61
                    have c61b1 : (a0 != 2) = true := bne_iff_ne.mpr c61
                    (first | rw [c61b0] | (simp only [i64_w, i32_w]; rw [c61b0]) | skip)
                    have H' := Aside0.mk H
                    clear H
                    go_wp2
                    go_meet
                    case rel => exact ⟨_, (false), (by first | rfl | (simp; done) | (simp [*]; done) | (simp [wrap64]; done)), H', ⟨by have := HJ4.out; have := HJ27.out; have := HJ45.out; have := HJ48.out; have := HJ50.out; have := HJ53.out; first | omega | exact Nat.le_refl _⟩, ⟨by (with_reducible repeat (first | refine blk_drewN ?_ _ | refine blk_drew ?_ | refine blk_alloc ?_ _)); exact BK374.out⟩, ⟨by repeat (first | (with_reducible first | exact HB.out | apply below_alloc | apply pw_below_drewN | apply below_drew1 | refine below_set ?_ GE374.out) | exact HB.out)⟩⟩
                  case rest =>
                   clear HC60
                   try clear c1
                   try clear c2
                   try clear p2
                   try clear c3
                   try clear c4
                   try clear c5
                   try clear c6
                   try clear p6
                   try clear c7
                   try clear c7b0
                   try clear c7b1
                   try clear c9
                   try clear c9b0
                   try clear c9b1
                   try clear c10
                   try clear c10b0
                   try clear c17
                   try clear c17b0
                   try clear c17b1
                   try clear c19
                   try clear c19b0
                   try clear c19b1
                   try clear c20
                   try clear c20b0
                   try clear c24
                   try clear c27
                   try clear c30
                   try clear c30b0
                   try clear c30b1
                   try clear c32
                   try clear c32b0
                   try clear c32b1
                   try clear c33
                   try clear c33b0
                   try clear c37
                   try clear c37b0
                   try clear c44
                   try clear c47
                   try clear c47b0
                   try clear c47b1
                   try clear c50
                   try clear c52
                   try clear c52b0
                   try clear c52b1
                   try clear c55
                   try clear c56
                   try clear c56b0
                   try clear c57
                   try clear c57b0
                   try clear c57b1
                   try clear c58
                   try clear c58b0
                   try clear c58b1
                   try clear c59
                   try clear c59b0
                   try clear c59b1
                   try clear c61
                   try clear c61b0
                   try clear c61b1
                   try clear hcz11_0
                   try clear hcz11_1
                   try clear hcz11_2
                   try clear hcz11_3
                   try clear hcz11_4
                   try clear hcz13_0
                   try clear hcz13_1
                   try clear hcz13_2
                   try clear hcz13_3
                   try clear hcz13_4
                   try clear hcz15_0
                   try clear hcz15_1
                   try clear hcz15_2
                   try clear hcz15_3
                   try clear hcz15_4
                   try clear hcz21_0
                   try clear hcz21_1
                   try clear hcz21_2
                   try clear hcz21_3
                   try clear hcz21_4
                   try clear hcz23_0
                   try clear hcz23_1
                   try clear hcz23_2
                   try clear hcz23_3
                   try clear hcz23_4
                   try clear hcz25_0
                   try clear hcz25_1
                   try clear hcz25_2
                   try clear hcz25_3
                   try clear hcz25_4
                   try clear hcz29_0
                   try clear hcz29_1
                   try clear hcz29_2
                   try clear hcz29_3
                   try clear hcz29_4
                   try clear hcz34_0
                   try clear hcz34_1
                   try clear hcz34_2
                   try clear hcz34_3
                   try clear hcz34_4
                   try clear hcz36_0
                   try clear hcz36_1
                   try clear hcz36_2
                   try clear hcz36_3
                   try clear hcz36_4
                   try clear hcz38_0
                   try clear hcz38_1
                   try clear hcz38_2
                   try clear hcz38_3
                   try clear hcz38_4
                   try clear hcz40_0
                   try clear hcz40_1
                   try clear hcz40_2
                   try clear hcz40_3
                   try clear hcz40_4
                   try clear hcz41_0
                   try clear hcz41_1
                   try clear hcz41_2
                   try clear hcz41_3
                   try clear hcz41_4
                   try clear hcz43_0
                   try clear hcz43_1
                   try clear hcz43_2
                   try clear hcz43_3
                   try clear hcz43_4
                   try clear hcz44_0
                   try clear hcz44_1
                   try clear hcz44_2
                   try clear hcz44_3
                   try clear hcz44_4
                   try clear hcz48_0
                   try clear hcz48_1
                   try clear hcz48_2
                   try clear hcz48_3
                   try clear hcz48_4
                   try clear hcz53_0
                   try clear hcz53_1
                   try clear hcz53_2
                   try clear hcz53_3
                   try clear hcz53_4
                   try clear hcz62_0
                   try clear hcz62_1
                   try clear hcz62_2
                   try clear hcz62_3
                   try clear hcz62_4
                   try clear hfz11_0
                   try clear hfz11_1
                   try clear hfz11_2
                   try clear hfz11_3
                   try clear hfz11_4
                   try clear hfz13_0
                   try clear hfz13_1
                   try clear hfz13_2
                   try clear hfz13_3
                   try clear hfz13_4
                   try clear hfz15_0
                   try clear hfz15_1
                   try clear hfz15_2
                   try clear hfz15_3
                   try clear hfz15_4
                   try clear hfz21_0
                   try clear hfz21_1
                   try clear hfz21_2
                   try clear hfz21_3
                   try clear hfz21_4
                   try clear hfz23_0
                   try clear hfz23_1
                   try clear hfz23_2
                   try clear hfz23_3
                   try clear hfz23_4
                   try clear hfz25_0
                   try clear hfz25_1
                   try clear hfz25_2
                   try clear hfz25_3
                   try clear hfz25_4
                   try clear hfz29_0
                   try clear hfz29_1
                   try clear hfz29_2
                   try clear hfz29_3
                   try clear hfz29_4
                   try clear hfz34_0
                   try clear hfz34_1
                   try clear hfz34_2
                   try clear hfz34_3
                   try clear hfz34_4
                   try clear hfz36_0
                   try clear hfz36_1
                   try clear hfz36_2
                   try clear hfz36_3
                   try clear hfz36_4
                   try clear hfz38_0
                   try clear hfz38_1
                   try clear hfz38_2
                   try clear hfz38_3
                   try clear hfz38_4
                   try clear hfz40_0
                   try clear hfz40_1
                   try clear hfz40_2
                   try clear hfz40_3
                   try clear hfz40_4
                   try clear hfz41_0
                   try clear hfz41_1
                   try clear hfz41_2
                   try clear hfz41_3
                   try clear hfz41_4
                   try clear hfz43_0
                   try clear hfz43_1
                   try clear hfz43_2
                   try clear hfz43_3
                   try clear hfz43_4
                   try clear hfz44_0
                   try clear hfz44_1
                   try clear hfz44_2
                   try clear hfz44_3
                   try clear hfz44_4
                   try clear hfz48_0
                   try clear hfz48_1
                   try clear hfz48_2
                   try clear hfz48_3
                   try clear hfz48_4
                   try clear hfz53_0
                   try clear hfz53_1
                   try clear hfz53_2
                   try clear hfz53_3
                   try clear hfz53_4
                   try clear hfz62_0
                   try clear hfz62_1
                   try clear hfz62_2
                   try clear hfz62_3
                   try clear hfz62_4
                   try clear p2
                   try clear p6
                   obtain ⟨kq, x114_59, rfl, HA, HJ59, BK374, HB⟩ := hcut
                   cases kq with
                   | zero => exact absurd HA.out (by simp [groatref12_Get.j6])
                   | succ kj59 =>
                    have H := HA.out
                    clear HA
                    simp only [groatref12_Get.j6] at H
                    have HC63 := Aside0.mk H
                    clear H
                    go_upto_if 114 with (fail)
                    go_cut [16] (fun v16 wc => ∃ (kq : Nat) (x16_62 : ByteArray), v16 = .string x16_62 ∧ Aside0 (groatref12_Get.j7 kq a0 x3_27 x15_53 x16_62 a1_0 a1_1 a1_2 a1_3 a1_4 = some (r1, r2, r3)) ∧ Aside0 (kq ≤ kj59) ∧ Aside0 (wc.heap[gb374]? = some (.cells #[.int .i64 a1_0, .int .i64 a1_1, .int .i64 a1_2, .int .i64 a1_3, .int .i64 a1_4] 23 (0, 0))) ∧ Aside0 (Below w.heap.size w wc))
                    case first =>
                     have H := HC63.out
                     clear HC63
                     by_cases c64 : x114_59 = true
                     ·subst c64
                      have H1 : ((groatref03_Get.f kj59 (a2.extract (x3_27 : Int).toNat ((wrap64 (x3_27 + x15_53)) : Int).toNat) x11_27).bind fun bt380 => (if bt380.2.1 = 0 then (groatref12_Get.j7 kj59 a0 x3_27 x15_53 bt380.1 a1_0 a1_1 a1_2 a1_3 a1_4) else (some ((⟨#[]⟩ : ByteArray), 0, bt380.2.1)))) = some (r1, r2, r3) := by rw [if_pos rfl] at H; exact H
                      clear H
                      have H := H1
                      clear H1
                      replace H := Option.bind_eq_some_iff.mp H
                      obtain ⟨⟨t380, t381, t382⟩, A650, H⟩ := H
                      replace H : (if t381 = 0 then (groatref12_Get.j7 kj59 a0 x3_27 x15_53 t380 a1_0 a1_1 a1_2 a1_3 a1_4) else (some ((⟨#[]⟩ : ByteArray), 0, t381))) = some (r1, r2, r3) := H
                      have A65 := Aside0.mk A650
                      clear A650
                      by_cases c66 : t381 = 0
                      ·rw [if_pos c66] at H
                       have c66b0 : (t381 == 0) = true := beq_iff_eq.mpr c66
                       have c66b1 : (t381 != 0) = false := bne_eq_false_iff_eq.mpr c66
                       clear c66
                       (first | rw [c66b0] | (simp only [i64_w, i32_w]; rw [c66b0]) | skip)
                       have H' := Aside0.mk H
                       clear H
                       go_wp2_with (first | ((with_reducible refine gate_callee (f := 45) rfl ?_); refine goesL_ (some 118) rfl rfl Try.func45 (by kernel_rfl) rfl #[.string (a2.extract (x3_27 : Int).toNat ((wrap64 (x3_27 + x15_53)) : Int).toNat), .int .i64 x11_27] rfl (by (try simp only [List.map_toArray, List.map_cons, List.map_nil]); first | done | rfl | (simp only [List.length_drop, List.length_take]; rfl)) ?_; (with_reducible refine (groatref03_Get.calls kj59 (a2.extract (x3_27 : Int).toNat ((wrap64 (x3_27 + x15_53)) : Int).toNat) x11_27 t380 t381 t382 _ A65.out).mono ?_); rintro e w67 ⟨rfl, hb⟩; refine ⟨_, rfl, ?_⟩; have n0_ := Aside0.mk (blk_below (g := gb374) (o := .cells #[.int .i64 a1_0, .int .i64 a1_1, .int .i64 a1_2, .int .i64 a1_3, .int .i64 a1_4] 23 (0, 0)) (by (with_reducible repeat (first | refine blk_drewN ?_ _ | refine blk_drew ?_ | refine blk_alloc ?_ _)); exact BK374.out) hb); have n1_ := Aside0.mk (below_step (by repeat (first | (with_reducible first | exact HB.out | apply below_alloc | apply pw_below_drewN | apply below_drew1 | refine below_set ?_ GE374.out) | exact HB.out)) hb); clear BK374; clear HB; have BK374 := n0_; have HB := n1_; clear n0_ n1_; (try clear hb); (try clear hb2); (try clear hk); (try clear hi)))
                       go_meet
                       case rel => exact ⟨_, (t380), (by first | rfl | (simp; done) | (simp [*]; done) | (simp [wrap64]; done)), H', ⟨by have := HJ4.out; have := HJ27.out; have := HJ45.out; have := HJ48.out; have := HJ50.out; have := HJ53.out; have := HJ59.out; first | omega | exact Nat.le_refl _⟩, ⟨by (with_reducible repeat (first | refine blk_drewN ?_ _ | refine blk_drew ?_ | refine blk_alloc ?_ _)); exact BK374.out⟩, ⟨by repeat (first | (with_reducible first | exact HB.out | apply below_alloc | apply pw_below_drewN | apply below_drew1 | refine below_set ?_ GE374.out) | exact HB.out)⟩⟩
                      ·rw [if_neg c66] at H
                       have c66b0 : (t381 == 0) = false := beq_eq_false_iff_ne.mpr c66
                       have c66b1 : (t381 != 0) = true := bne_iff_ne.mpr c66
                       (first | rw [c66b0] | (simp only [i64_w, i32_w]; rw [c66b0]) | skip)
                       simp only [Option.some.injEq, Prod.mk.injEq] at H
                       obtain ⟨rfl, rfl, rfl⟩ := H
                       go_wp2_with (first | ((with_reducible refine gate_callee (f := 45) rfl ?_); refine goesL_ (some 118) rfl rfl Try.func45 (by kernel_rfl) rfl #[.string (a2.extract (x3_27 : Int).toNat ((wrap64 (x3_27 + x15_53)) : Int).toNat), .int .i64 x11_27] rfl (by (try simp only [List.map_toArray, List.map_cons, List.map_nil]); first | done | rfl | (simp only [List.length_drop, List.length_take]; rfl)) ?_; (with_reducible refine (groatref03_Get.calls kj59 (a2.extract (x3_27 : Int).toNat ((wrap64 (x3_27 + x15_53)) : Int).toNat) x11_27 t380 t381 t382 _ A65.out).mono ?_); rintro e w68 ⟨rfl, hb⟩; refine ⟨_, rfl, ?_⟩; have n0_ := Aside0.mk (blk_below (g := gb374) (o := .cells #[.int .i64 a1_0, .int .i64 a1_1, .int .i64 a1_2, .int .i64 a1_3, .int .i64 a1_4] 23 (0, 0)) (by (with_reducible repeat (first | refine blk_drewN ?_ _ | refine blk_drew ?_ | refine blk_alloc ?_ _)); exact BK374.out) hb); have n1_ := Aside0.mk (below_step (by repeat (first | (with_reducible first | exact HB.out | apply below_alloc | apply pw_below_drewN | apply below_drew1 | refine below_set ?_ GE374.out) | exact HB.out)) hb); clear BK374; clear HB; have BK374 := n0_; have HB := n1_; clear n0_ n1_; (try clear hb); (try clear hb2); (try clear hk); (try clear hi)))
                       go_ret3
                       exact ⟨by first | rfl | (simp [errW_none, errW_some] <;> rfl) | (simp [*, errW_none, errW_some] <;> rfl), by repeat (first | (with_reducible first | exact HB.out | apply below_alloc | apply pw_below_drewN | apply below_drew1 | refine below_set ?_ GE374.out) | exact HB.out)⟩
                     ·replace c64 := Bool.eq_false_iff.mpr c64
                      subst c64
                      have H1 : (groatref12_Get.j7 kj59 a0 x3_27 x15_53 (a2.extract (x3_27 : Int).toNat ((wrap64 (x3_27 + x15_53)) : Int).toNat) a1_0 a1_1 a1_2 a1_3 a1_4) = some (r1, r2, r3) := by rw [if_neg (show ¬ (false = true) by decide)] at H; exact H
                      clear H
                      have H := H1
                      clear H1
                      have H' := Aside0.mk H
                      clear H
                      go_wp2
                      go_meet
                      case rel => exact ⟨_, ((a2.extract (x3_27 : Int).toNat ((wrap64 (x3_27 + x15_53)) : Int).toNat)), (by first | rfl | (simp; done) | (simp [*]; done) | (simp [wrap64]; done)), H', ⟨by have := HJ4.out; have := HJ27.out; have := HJ45.out; have := HJ48.out; have := HJ50.out; have := HJ53.out; have := HJ59.out; first | omega | exact Nat.le_refl _⟩, ⟨by (with_reducible repeat (first | refine blk_drewN ?_ _ | refine blk_drew ?_ | refine blk_alloc ?_ _)); exact BK374.out⟩, ⟨by repeat (first | (with_reducible first | exact HB.out | apply below_alloc | apply pw_below_drewN | apply below_drew1 | refine below_set ?_ GE374.out) | exact HB.out)⟩⟩
                    case rest =>
                     clear HC63
                     try clear c1
                     try clear c2
                     try clear p2
                     try clear c3
                     try clear c4
                     try clear c5
                     try clear c6
                     try clear p6
                     try clear c7
                     try clear c7b0
                     try clear c7b1
                     try clear c9
                     try clear c9b0
                     try clear c9b1
                     try clear c10
                     try clear c10b0
                     try clear c17
                     try clear c17b0
                     try clear c17b1
                     try clear c19
                     try clear c19b0
                     try clear c19b1
                     try clear c20
                     try clear c20b0
                     try clear c24
                     try clear c27
                     try clear c30
                     try clear c30b0
                     try clear c30b1
                     try clear c32
                     try clear c32b0
                     try clear c32b1
                     try clear c33
                     try clear c33b0
                     try clear c37
                     try clear c37b0
                     try clear c44
                     try clear c45
                     try clear c47
                     try clear c47b0
                     try clear c47b1
                     try clear c50
                     try clear c52
                     try clear c52b0
                     try clear c52b1
                     try clear c55
                     try clear c56
                     try clear c56b0
                     try clear c57
                     try clear c57b0
                     try clear c57b1
                     try clear c58
                     try clear c58b0
                     try clear c58b1
                     try clear c59
                     try clear c59b0
                     try clear c59b1
                     try clear c61
                     try clear c61b0
                     try clear c61b1
                     try clear c64
                     try clear p64
                     try clear c66
                     try clear c66b0
                     try clear c66b1
                     try clear hcz11_0
                     try clear hcz11_1
                     try clear hcz11_2
                     try clear hcz11_3
                     try clear hcz11_4
                     try clear hcz13_0
                     try clear hcz13_1
                     try clear hcz13_2
                     try clear hcz13_3
                     try clear hcz13_4
                     try clear hcz15_0
                     try clear hcz15_1
                     try clear hcz15_2
                     try clear hcz15_3
                     try clear hcz15_4
                     try clear hcz21_0
                     try clear hcz21_1
                     try clear hcz21_2
                     try clear hcz21_3
                     try clear hcz21_4
                     try clear hcz23_0
                     try clear hcz23_1
                     try clear hcz23_2
                     try clear hcz23_3
                     try clear hcz23_4
                     try clear hcz25_0
                     try clear hcz25_1
                     try clear hcz25_2
                     try clear hcz25_3
                     try clear hcz25_4
                     try clear hcz29_0
                     try clear hcz29_1
                     try clear hcz29_2
                     try clear hcz29_3
                     try clear hcz29_4
                     try clear hcz34_0
                     try clear hcz34_1
                     try clear hcz34_2
                     try clear hcz34_3
                     try clear hcz34_4
                     try clear hcz36_0
                     try clear hcz36_1
                     try clear hcz36_2
                     try clear hcz36_3
                     try clear hcz36_4
                     try clear hcz38_0
                     try clear hcz38_1
                     try clear hcz38_2
                     try clear hcz38_3
                     try clear hcz38_4
                     try clear hcz40_0
                     try clear hcz40_1
                     try clear hcz40_2
                     try clear hcz40_3
                     try clear hcz40_4
                     try clear hcz41_0
                     try clear hcz41_1
                     try clear hcz41_2
                     try clear hcz41_3
                     try clear hcz41_4
                     try clear hcz43_0
                     try clear hcz43_1
                     try clear hcz43_2
                     try clear hcz43_3
                     try clear hcz43_4
                     try clear hcz44_0
                     try clear hcz44_1
                     try clear hcz44_2
                     try clear hcz44_3
                     try clear hcz44_4
                     try clear hcz48_0
                     try clear hcz48_1
                     try clear hcz48_2
                     try clear hcz48_3
                     try clear hcz48_4
                     try clear hcz53_0
                     try clear hcz53_1
                     try clear hcz53_2
                     try clear hcz53_3
                     try clear hcz53_4
                     try clear hcz62_0
                     try clear hcz62_1
                     try clear hcz62_2
                     try clear hcz62_3
                     try clear hcz62_4
                     try clear hfz11_0
                     try clear hfz11_1
                     try clear hfz11_2
                     try clear hfz11_3
                     try clear hfz11_4
                     try clear hfz13_0
                     try clear hfz13_1
                     try clear hfz13_2
                     try clear hfz13_3
                     try clear hfz13_4
                     try clear hfz15_0
                     try clear hfz15_1
                     try clear hfz15_2
                     try clear hfz15_3
                     try clear hfz15_4
                     try clear hfz21_0
                     try clear hfz21_1
                     try clear hfz21_2
                     try clear hfz21_3
                     try clear hfz21_4
                     try clear hfz23_0
                     try clear hfz23_1
                     try clear hfz23_2
                     try clear hfz23_3
                     try clear hfz23_4
                     try clear hfz25_0
                     try clear hfz25_1
                     try clear hfz25_2
                     try clear hfz25_3
                     try clear hfz25_4
                     try clear hfz29_0
                     try clear hfz29_1
                     try clear hfz29_2
                     try clear hfz29_3
                     try clear hfz29_4
                     try clear hfz34_0
                     try clear hfz34_1
                     try clear hfz34_2
                     try clear hfz34_3
                     try clear hfz34_4
                     try clear hfz36_0
                     try clear hfz36_1
                     try clear hfz36_2
                     try clear hfz36_3
                     try clear hfz36_4
                     try clear hfz38_0
                     try clear hfz38_1
                     try clear hfz38_2
                     try clear hfz38_3
                     try clear hfz38_4
                     try clear hfz40_0
                     try clear hfz40_1
                     try clear hfz40_2
                     try clear hfz40_3
                     try clear hfz40_4
                     try clear hfz41_0
                     try clear hfz41_1
                     try clear hfz41_2
                     try clear hfz41_3
                     try clear hfz41_4
                     try clear hfz43_0
                     try clear hfz43_1
                     try clear hfz43_2
                     try clear hfz43_3
                     try clear hfz43_4
                     try clear hfz44_0
                     try clear hfz44_1
                     try clear hfz44_2
                     try clear hfz44_3
                     try clear hfz44_4
                     try clear hfz48_0
                     try clear hfz48_1
                     try clear hfz48_2
                     try clear hfz48_3
                     try clear hfz48_4
                     try clear hfz53_0
                     try clear hfz53_1
                     try clear hfz53_2
                     try clear hfz53_3
                     try clear hfz53_4
                     try clear hfz62_0
                     try clear hfz62_1
                     try clear hfz62_2
                     try clear hfz62_3
                     try clear hfz62_4
                     try clear p2
                     try clear p6
                     obtain ⟨kq, x16_62, rfl, HA, HJ62, BK374, HB⟩ := hcut
                     cases kq with
                     | zero => exact absurd HA.out (by simp [groatref12_Get.j7])
                     | succ kj62 =>
                      have H := HA.out
                      clear HA
                      simp only [groatref12_Get.j7] at H
                      have HC69 := Aside0.mk H
                      clear H
                      go_upto_region 25 with (fail)
                      go_cut [132] (fun v132 wc => ∃ (kq : Nat) (x132_68 : Bool), v132 = .bool x132_68 ∧ Aside0 (groatref12_Get.j8 kq x3_27 x15_53 x16_62 x132_68 a1_0 a1_1 a1_2 a1_3 a1_4 = some (r1, r2, r3)) ∧ Aside0 (kq ≤ kj62) ∧ Aside0 (wc.heap[gb374]? = some (.cells #[.int .i64 a1_0, .int .i64 a1_1, .int .i64 a1_2, .int .i64 a1_3, .int .i64 a1_4] 23 (0, 0))) ∧ Aside0 (Below w.heap.size w wc))
                      case first =>
                       have H := HC69.out
                       clear HC69
                       by_cases c70 : a0 = 1
                       ·rw [if_pos c70] at H
                        have c70b0 : (a0 == 1) = true := beq_iff_eq.mpr c70
                        have c70b1 : (a0 != 1) = false := bne_eq_false_iff_eq.mpr c70
                        clear c70
                        (first | rw [c70b0] | (simp only [i64_w, i32_w]; rw [c70b0]) | skip)
                        have H' := Aside0.mk H
                        clear H
                        have hcz71_0 : wc.cell? ⟨gb374, 0, none⟩ = some (.int .i64 a1_0) := (blk_cell BK374.out 0).trans rfl
                        have hcz71_1 : wc.cell? ⟨gb374, 1, none⟩ = some (.int .i64 a1_1) := (blk_cell BK374.out 1).trans rfl
                        have hcz71_2 : wc.cell? ⟨gb374, 2, none⟩ = some (.int .i64 a1_2) := (blk_cell BK374.out 2).trans rfl
                        have hcz71_3 : wc.cell? ⟨gb374, 3, none⟩ = some (.int .i64 a1_3) := (blk_cell BK374.out 3).trans rfl
                        have hcz71_4 : wc.cell? ⟨gb374, 4, none⟩ = some (.int .i64 a1_4) := (blk_cell BK374.out 4).trans rfl
                        have hfz71_0 := blk_frozen BK374.out 0
                        have hfz71_1 := blk_frozen BK374.out 1
                        have hfz71_2 := blk_frozen BK374.out 2
                        have hfz71_3 := blk_frozen BK374.out 3
                        have hfz71_4 := blk_frozen BK374.out 4
                        go_wp2
                        go_meet
                        case rel => exact ⟨_, (decide (a1_1 ≥ 5)), (by first | rfl | (simp; done) | (simp [*]; done) | (simp [wrap64]; done)), H', ⟨by have := HJ4.out; have := HJ27.out; have := HJ45.out; have := HJ48.out; have := HJ50.out; have := HJ53.out; have := HJ59.out; have := HJ62.out; first | omega | exact Nat.le_refl _⟩, ⟨by (with_reducible repeat (first | refine blk_drewN ?_ _ | refine blk_drew ?_ | refine blk_alloc ?_ _)); exact BK374.out⟩, ⟨by repeat (first | (with_reducible first | exact HB.out | apply below_alloc | apply pw_below_drewN | apply below_drew1 | refine below_set ?_ GE374.out) | exact HB.out)⟩⟩
                       ·rw [if_neg c70] at H
                        have c70b0 : (a0 == 1) = false := beq_eq_false_iff_ne.mpr c70
                        have c70b1 : (a0 != 1) = true := bne_iff_ne.mpr c70
                        (first | rw [c70b0] | (simp only [i64_w, i32_w]; rw [c70b0]) | skip)
                        have H' := Aside0.mk H
                        clear H
                        go_wp2
                        go_meet
                        case rel => exact ⟨_, (false), (by first | rfl | (simp; done) | (simp [*]; done) | (simp [wrap64]; done)), H', ⟨by have := HJ4.out; have := HJ27.out; have := HJ45.out; have := HJ48.out; have := HJ50.out; have := HJ53.out; have := HJ59.out; have := HJ62.out; first | omega | exact Nat.le_refl _⟩, ⟨by (with_reducible repeat (first | refine blk_drewN ?_ _ | refine blk_drew ?_ | refine blk_alloc ?_ _)); exact BK374.out⟩, ⟨by repeat (first | (with_reducible first | exact HB.out | apply below_alloc | apply pw_below_drewN | apply below_drew1 | refine below_set ?_ GE374.out) | exact HB.out)⟩⟩
                      case rest =>
                       clear HC69
                       try clear c1
                       try clear c2
                       try clear p2
                       try clear c3
                       try clear c4
                       try clear c5
                       try clear c6
                       try clear p6
                       try clear c7
                       try clear c7b0
                       try clear c7b1
                       try clear c9
                       try clear c9b0
                       try clear c9b1
                       try clear c10
                       try clear c10b0
                       try clear c17
                       try clear c17b0
                       try clear c17b1
                       try clear c19
                       try clear c19b0
                       try clear c19b1
                       try clear c20
                       try clear c20b0
                       try clear c24
                       try clear c27
                       try clear c30
                       try clear c30b0
                       try clear c30b1
                       try clear c32
                       try clear c32b0
                       try clear c32b1
                       try clear c33
                       try clear c33b0
                       try clear c37
                       try clear c37b0
                       try clear c44
                       try clear c45
                       try clear c47
                       try clear c47b0
                       try clear c47b1
                       try clear c50
                       try clear c52
                       try clear c52b0
                       try clear c52b1
                       try clear c55
                       try clear c56
                       try clear c56b0
                       try clear c57
                       try clear c57b0
                       try clear c57b1
                       try clear c58
                       try clear c58b0
                       try clear c58b1
                       try clear c59
                       try clear c59b0
                       try clear c59b1
                       try clear c61
                       try clear c61b0
                       try clear c61b1
                       try clear c64
                       try clear p64
                       try clear c66
                       try clear c66b0
                       try clear c66b1
                       try clear c70
                       try clear c70b0
                       try clear c70b1
                       try clear hcz11_0
                       try clear hcz11_1
                       try clear hcz11_2
                       try clear hcz11_3
                       try clear hcz11_4
                       try clear hcz13_0
                       try clear hcz13_1
                       try clear hcz13_2
                       try clear hcz13_3
                       try clear hcz13_4
                       try clear hcz15_0
                       try clear hcz15_1
                       try clear hcz15_2
                       try clear hcz15_3
                       try clear hcz15_4
                       try clear hcz21_0
                       try clear hcz21_1
                       try clear hcz21_2
                       try clear hcz21_3
                       try clear hcz21_4
                       try clear hcz23_0
                       try clear hcz23_1
                       try clear hcz23_2
                       try clear hcz23_3
                       try clear hcz23_4
                       try clear hcz25_0
                       try clear hcz25_1
                       try clear hcz25_2
                       try clear hcz25_3
                       try clear hcz25_4
                       try clear hcz29_0
                       try clear hcz29_1
                       try clear hcz29_2
                       try clear hcz29_3
                       try clear hcz29_4
                       try clear hcz34_0
                       try clear hcz34_1
                       try clear hcz34_2
                       try clear hcz34_3
                       try clear hcz34_4
                       try clear hcz36_0
                       try clear hcz36_1
                       try clear hcz36_2
                       try clear hcz36_3
                       try clear hcz36_4
                       try clear hcz38_0
                       try clear hcz38_1
                       try clear hcz38_2
                       try clear hcz38_3
                       try clear hcz38_4
                       try clear hcz40_0
                       try clear hcz40_1
                       try clear hcz40_2
                       try clear hcz40_3
                       try clear hcz40_4
                       try clear hcz41_0
                       try clear hcz41_1
                       try clear hcz41_2
                       try clear hcz41_3
                       try clear hcz41_4
                       try clear hcz43_0
                       try clear hcz43_1
                       try clear hcz43_2
                       try clear hcz43_3
                       try clear hcz43_4
                       try clear hcz44_0
                       try clear hcz44_1
                       try clear hcz44_2
                       try clear hcz44_3
                       try clear hcz44_4
                       try clear hcz48_0
                       try clear hcz48_1
                       try clear hcz48_2
                       try clear hcz48_3
                       try clear hcz48_4
                       try clear hcz53_0
                       try clear hcz53_1
                       try clear hcz53_2
                       try clear hcz53_3
                       try clear hcz53_4
                       try clear hcz62_0
                       try clear hcz62_1
                       try clear hcz62_2
                       try clear hcz62_3
                       try clear hcz62_4
                       try clear hcz71_0
                       try clear hcz71_1
                       try clear hcz71_2
                       try clear hcz71_3
                       try clear hcz71_4
                       try clear hfz11_0
                       try clear hfz11_1
                       try clear hfz11_2
                       try clear hfz11_3
                       try clear hfz11_4
                       try clear hfz13_0
                       try clear hfz13_1
                       try clear hfz13_2
                       try clear hfz13_3
                       try clear hfz13_4
                       try clear hfz15_0
                       try clear hfz15_1
                       try clear hfz15_2
                       try clear hfz15_3
                       try clear hfz15_4
                       try clear hfz21_0
                       try clear hfz21_1
                       try clear hfz21_2
                       try clear hfz21_3
                       try clear hfz21_4
                       try clear hfz23_0
                       try clear hfz23_1
                       try clear hfz23_2
                       try clear hfz23_3
                       try clear hfz23_4
                       try clear hfz25_0
                       try clear hfz25_1
                       try clear hfz25_2
                       try clear hfz25_3
                       try clear hfz25_4
                       try clear hfz29_0
                       try clear hfz29_1
                       try clear hfz29_2
                       try clear hfz29_3
                       try clear hfz29_4
                       try clear hfz34_0
                       try clear hfz34_1
                       try clear hfz34_2
                       try clear hfz34_3
                       try clear hfz34_4
                       try clear hfz36_0
                       try clear hfz36_1
                       try clear hfz36_2
                       try clear hfz36_3
                       try clear hfz36_4
                       try clear hfz38_0
                       try clear hfz38_1
                       try clear hfz38_2
                       try clear hfz38_3
                       try clear hfz38_4
                       try clear hfz40_0
                       try clear hfz40_1
                       try clear hfz40_2
                       try clear hfz40_3
                       try clear hfz40_4
                       try clear hfz41_0
                       try clear hfz41_1
                       try clear hfz41_2
                       try clear hfz41_3
                       try clear hfz41_4
                       try clear hfz43_0
                       try clear hfz43_1
                       try clear hfz43_2
                       try clear hfz43_3
                       try clear hfz43_4
                       try clear hfz44_0
                       try clear hfz44_1
                       try clear hfz44_2
                       try clear hfz44_3
                       try clear hfz44_4
                       try clear hfz48_0
                       try clear hfz48_1
                       try clear hfz48_2
                       try clear hfz48_3
                       try clear hfz48_4
                       try clear hfz53_0
                       try clear hfz53_1
                       try clear hfz53_2
                       try clear hfz53_3
                       try clear hfz53_4
                       try clear hfz62_0
                       try clear hfz62_1
                       try clear hfz62_2
                       try clear hfz62_3
                       try clear hfz62_4
                       try clear hfz71_0
                       try clear hfz71_1
                       try clear hfz71_2
                       try clear hfz71_3
                       try clear hfz71_4
                       try clear p2
                       try clear p6
                       try clear p64
                       obtain ⟨kq, x132_68, rfl, HA, HJ68, BK374, HB⟩ := hcut
                       cases kq with
                       | zero => exact absurd HA.out (by simp [groatref12_Get.j8])
                       | succ kj68 =>
                        have H := HA.out
                        clear HA
                        simp only [groatref12_Get.j8] at H
                        by_cases c72 : x132_68 = true
                        ·subst c72
                         have H1 : ((groatref02_Get.f kj68 x16_62).bind fun bt383 => (if bt383.2.2 = true then ((groatref11_Value.f kj68 a1_0 a1_1 a1_2 a1_3 a1_4 bt383.1).bind fun t386 => (if t386 = 0 then (some (bt383.1, wrap64 (x3_27 + x15_53), 0)) else (some ((⟨#[]⟩ : ByteArray), 0, t386)))) else (some ((⟨#[]⟩ : ByteArray), 0, 3)))) = some (r1, r2, r3) := by rw [if_pos rfl] at H; exact H
                         clear H
                         have H := H1
                         clear H1
                         replace H := Option.bind_eq_some_iff.mp H
                         obtain ⟨⟨t383, t384, t385⟩, A730, H⟩ := H
                         replace H : (if t385 = true then ((groatref11_Value.f kj68 a1_0 a1_1 a1_2 a1_3 a1_4 t383).bind fun t386 => (if t386 = 0 then (some (t383, wrap64 (x3_27 + x15_53), 0)) else (some ((⟨#[]⟩ : ByteArray), 0, t386)))) else (some ((⟨#[]⟩ : ByteArray), 0, 3))) = some (r1, r2, r3) := H
                         have A73 := Aside0.mk A730
                         clear A730
                         by_cases c74 : t385 = true
                         ·subst c74
                          have H1 : ((groatref11_Value.f kj68 a1_0 a1_1 a1_2 a1_3 a1_4 t383).bind fun t386 => (if t386 = 0 then (some (t383, wrap64 (x3_27 + x15_53), 0)) else (some ((⟨#[]⟩ : ByteArray), 0, t386)))) = some (r1, r2, r3) := by rw [if_pos rfl] at H; exact H
                          clear H
                          have H := H1
                          clear H1
                          replace H := Option.bind_eq_some_iff.mp H
                          obtain ⟨t386, A750, H⟩ := H
                          replace H : (if t386 = 0 then (some (t383, wrap64 (x3_27 + x15_53), 0)) else (some ((⟨#[]⟩ : ByteArray), 0, t386))) = some (r1, r2, r3) := H
                          have A75 := Aside0.mk A750
                          clear A750
                          by_cases c76 : t386 = 0
                          ·rw [if_pos c76] at H
                           have c76b0 : (t386 == 0) = true := beq_iff_eq.mpr c76
                           have c76b1 : (t386 != 0) = false := bne_eq_false_iff_eq.mpr c76
                           clear c76
                           simp only [Option.some.injEq, Prod.mk.injEq] at H
                           obtain ⟨rfl, rfl, rfl⟩ := H
                           go_wp2_with (first | ((with_reducible refine gate_callee (f := 46) rfl ?_); refine goesL_ (some 135) rfl rfl Try.func46 (by kernel_rfl) rfl #[.string x16_62] rfl (by (try simp only [List.map_toArray, List.map_cons, List.map_nil]); first | done | rfl | (simp only [List.length_drop, List.length_take]; rfl)) ?_; (with_reducible refine (groatref02_Get.calls kj68 x16_62 t383 t384 true _ A73.out).mono ?_); rintro e w77 ⟨rfl, hb⟩; refine ⟨_, rfl, ?_⟩; have n0_ := Aside0.mk (blk_below (g := gb374) (o := .cells #[.int .i64 a1_0, .int .i64 a1_1, .int .i64 a1_2, .int .i64 a1_3, .int .i64 a1_4] 23 (0, 0)) (by (with_reducible repeat (first | refine blk_drewN ?_ _ | refine blk_drew ?_ | refine blk_alloc ?_ _)); exact BK374.out) hb); have n1_ := Aside0.mk (below_step (by repeat (first | (with_reducible first | exact HB.out | apply below_alloc | apply pw_below_drewN | apply below_drew1 | refine below_set ?_ GE374.out) | exact HB.out)) hb); clear BK374; clear HB; have BK374 := n0_; have HB := n1_; clear n0_ n1_; (try clear hb); (try clear hb2); (try clear hk); (try clear hi); have hcz78_0 : w77.cell? ⟨gb374, 0, none⟩ = some (.int .i64 a1_0) := (blk_cell BK374.out 0).trans rfl; have hcz78_1 : w77.cell? ⟨gb374, 1, none⟩ = some (.int .i64 a1_1) := (blk_cell BK374.out 1).trans rfl; have hcz78_2 : w77.cell? ⟨gb374, 2, none⟩ = some (.int .i64 a1_2) := (blk_cell BK374.out 2).trans rfl; have hcz78_3 : w77.cell? ⟨gb374, 3, none⟩ = some (.int .i64 a1_3) := (blk_cell BK374.out 3).trans rfl; have hcz78_4 : w77.cell? ⟨gb374, 4, none⟩ = some (.int .i64 a1_4) := (blk_cell BK374.out 4).trans rfl; have hfz78_0 := blk_frozen BK374.out 0; have hfz78_1 := blk_frozen BK374.out 1; have hfz78_2 := blk_frozen BK374.out 2; have hfz78_3 := blk_frozen BK374.out 3; have hfz78_4 := blk_frozen BK374.out 4) | ((with_reducible refine gate_callee (f := 17) rfl ?_); refine goesL_ (some 144) rfl rfl Try.func17 (by kernel_rfl) rfl #[.agg #[.int .i64 a1_0, .int .i64 a1_1, .int .i64 a1_2, .int .i64 a1_3, .int .i64 a1_4], .string t383] rfl (by (try simp only [List.map_toArray, List.map_cons, List.map_nil]); first | done | rfl | (simp only [List.length_drop, List.length_take]; rfl)) ?_; (with_reducible refine (groatref11_Value.calls kj68 a1_0 a1_1 a1_2 a1_3 a1_4 t383 t386 _ A75.out).mono ?_); rintro e w79 ⟨rfl, hb⟩; refine ⟨_, rfl, ?_⟩; have n0_ := Aside0.mk (blk_below (g := gb374) (o := .cells #[.int .i64 a1_0, .int .i64 a1_1, .int .i64 a1_2, .int .i64 a1_3, .int .i64 a1_4] 23 (0, 0)) (by (with_reducible repeat (first | refine blk_drewN ?_ _ | refine blk_drew ?_ | refine blk_alloc ?_ _)); exact BK374.out) hb); have n1_ := Aside0.mk (below_step (by repeat (first | (with_reducible first | exact HB.out | apply below_alloc | apply pw_below_drewN | apply below_drew1 | refine below_set ?_ GE374.out) | exact HB.out)) hb); clear BK374; clear HB; have BK374 := n0_; have HB := n1_; clear n0_ n1_; (try clear hb); (try clear hb2); (try clear hk); (try clear hi)))
                           go_ret3
                           exact ⟨by first | rfl | (simp [errW_none, errW_some] <;> rfl) | (simp [*, errW_none, errW_some] <;> rfl), by repeat (first | (with_reducible first | exact HB.out | apply below_alloc | apply pw_below_drewN | apply below_drew1 | refine below_set ?_ GE374.out) | exact HB.out)⟩
                          ·rw [if_neg c76] at H
                           have c76b0 : (t386 == 0) = false := beq_eq_false_iff_ne.mpr c76
                           have c76b1 : (t386 != 0) = true := bne_iff_ne.mpr c76
                           simp only [Option.some.injEq, Prod.mk.injEq] at H
                           obtain ⟨rfl, rfl, rfl⟩ := H
                           go_wp2_with (first | ((with_reducible refine gate_callee (f := 46) rfl ?_); refine goesL_ (some 135) rfl rfl Try.func46 (by kernel_rfl) rfl #[.string x16_62] rfl (by (try simp only [List.map_toArray, List.map_cons, List.map_nil]); first | done | rfl | (simp only [List.length_drop, List.length_take]; rfl)) ?_; (with_reducible refine (groatref02_Get.calls kj68 x16_62 t383 t384 true _ A73.out).mono ?_); rintro e w80 ⟨rfl, hb⟩; refine ⟨_, rfl, ?_⟩; have n0_ := Aside0.mk (blk_below (g := gb374) (o := .cells #[.int .i64 a1_0, .int .i64 a1_1, .int .i64 a1_2, .int .i64 a1_3, .int .i64 a1_4] 23 (0, 0)) (by (with_reducible repeat (first | refine blk_drewN ?_ _ | refine blk_drew ?_ | refine blk_alloc ?_ _)); exact BK374.out) hb); have n1_ := Aside0.mk (below_step (by repeat (first | (with_reducible first | exact HB.out | apply below_alloc | apply pw_below_drewN | apply below_drew1 | refine below_set ?_ GE374.out) | exact HB.out)) hb); clear BK374; clear HB; have BK374 := n0_; have HB := n1_; clear n0_ n1_; (try clear hb); (try clear hb2); (try clear hk); (try clear hi); have hcz81_0 : w80.cell? ⟨gb374, 0, none⟩ = some (.int .i64 a1_0) := (blk_cell BK374.out 0).trans rfl; have hcz81_1 : w80.cell? ⟨gb374, 1, none⟩ = some (.int .i64 a1_1) := (blk_cell BK374.out 1).trans rfl; have hcz81_2 : w80.cell? ⟨gb374, 2, none⟩ = some (.int .i64 a1_2) := (blk_cell BK374.out 2).trans rfl; have hcz81_3 : w80.cell? ⟨gb374, 3, none⟩ = some (.int .i64 a1_3) := (blk_cell BK374.out 3).trans rfl; have hcz81_4 : w80.cell? ⟨gb374, 4, none⟩ = some (.int .i64 a1_4) := (blk_cell BK374.out 4).trans rfl; have hfz81_0 := blk_frozen BK374.out 0; have hfz81_1 := blk_frozen BK374.out 1; have hfz81_2 := blk_frozen BK374.out 2; have hfz81_3 := blk_frozen BK374.out 3; have hfz81_4 := blk_frozen BK374.out 4) | ((with_reducible refine gate_callee (f := 17) rfl ?_); refine goesL_ (some 144) rfl rfl Try.func17 (by kernel_rfl) rfl #[.agg #[.int .i64 a1_0, .int .i64 a1_1, .int .i64 a1_2, .int .i64 a1_3, .int .i64 a1_4], .string t383] rfl (by (try simp only [List.map_toArray, List.map_cons, List.map_nil]); first | done | rfl | (simp only [List.length_drop, List.length_take]; rfl)) ?_; (with_reducible refine (groatref11_Value.calls kj68 a1_0 a1_1 a1_2 a1_3 a1_4 t383 t386 _ A75.out).mono ?_); rintro e w82 ⟨rfl, hb⟩; refine ⟨_, rfl, ?_⟩; have n0_ := Aside0.mk (blk_below (g := gb374) (o := .cells #[.int .i64 a1_0, .int .i64 a1_1, .int .i64 a1_2, .int .i64 a1_3, .int .i64 a1_4] 23 (0, 0)) (by (with_reducible repeat (first | refine blk_drewN ?_ _ | refine blk_drew ?_ | refine blk_alloc ?_ _)); exact BK374.out) hb); have n1_ := Aside0.mk (below_step (by repeat (first | (with_reducible first | exact HB.out | apply below_alloc | apply pw_below_drewN | apply below_drew1 | refine below_set ?_ GE374.out) | exact HB.out)) hb); clear BK374; clear HB; have BK374 := n0_; have HB := n1_; clear n0_ n1_; (try clear hb); (try clear hb2); (try clear hk); (try clear hi)))
                           go_ret3
                           exact ⟨by first | rfl | (simp [errW_none, errW_some] <;> rfl) | (simp [*, errW_none, errW_some] <;> rfl), by repeat (first | (with_reducible first | exact HB.out | apply below_alloc | apply pw_below_drewN | apply below_drew1 | refine below_set ?_ GE374.out) | exact HB.out)⟩
                         ·replace c74 := Bool.eq_false_iff.mpr c74
                          subst c74
                          have H1 : (some ((⟨#[]⟩ : ByteArray), 0, 3)) = some (r1, r2, r3) := by rw [if_neg (show ¬ (false = true) by decide)] at H; exact H
                          clear H
                          have H := H1
                          clear H1
                          simp only [Option.some.injEq, Prod.mk.injEq] at H
                          obtain ⟨rfl, rfl, rfl⟩ := H
                          go_wp2_with (first | ((with_reducible refine gate_callee (f := 46) rfl ?_); refine goesL_ (some 135) rfl rfl Try.func46 (by kernel_rfl) rfl #[.string x16_62] rfl (by (try simp only [List.map_toArray, List.map_cons, List.map_nil]); first | done | rfl | (simp only [List.length_drop, List.length_take]; rfl)) ?_; (with_reducible refine (groatref02_Get.calls kj68 x16_62 t383 t384 false _ A73.out).mono ?_); rintro e w83 ⟨rfl, hb⟩; refine ⟨_, rfl, ?_⟩; have n0_ := Aside0.mk (blk_below (g := gb374) (o := .cells #[.int .i64 a1_0, .int .i64 a1_1, .int .i64 a1_2, .int .i64 a1_3, .int .i64 a1_4] 23 (0, 0)) (by (with_reducible repeat (first | refine blk_drewN ?_ _ | refine blk_drew ?_ | refine blk_alloc ?_ _)); exact BK374.out) hb); have n1_ := Aside0.mk (below_step (by repeat (first | (with_reducible first | exact HB.out | apply below_alloc | apply pw_below_drewN | apply below_drew1 | refine below_set ?_ GE374.out) | exact HB.out)) hb); clear BK374; clear HB; have BK374 := n0_; have HB := n1_; clear n0_ n1_; (try clear hb); (try clear hb2); (try clear hk); (try clear hi)))
                          go_ret3
                          exact ⟨by first | rfl | (simp [errW_none, errW_some] <;> rfl) | (simp [*, errW_none, errW_some] <;> rfl), by repeat (first | (with_reducible first | exact HB.out | apply below_alloc | apply pw_below_drewN | apply below_drew1 | refine below_set ?_ GE374.out) | exact HB.out)⟩
                        ·replace c72 := Bool.eq_false_iff.mpr c72
                         subst c72
                         have H1 : ((groatref11_Value.f kj68 a1_0 a1_1 a1_2 a1_3 a1_4 x16_62).bind fun t387 => (if t387 = 0 then (some (x16_62, wrap64 (x3_27 + x15_53), 0)) else (some ((⟨#[]⟩ : ByteArray), 0, t387)))) = some (r1, r2, r3) := by rw [if_neg (show ¬ (false = true) by decide)] at H; exact H
                         clear H
                         have H := H1
                         clear H1
                         replace H := Option.bind_eq_some_iff.mp H
                         obtain ⟨t387, A840, H⟩ := H
                         replace H : (if t387 = 0 then (some (x16_62, wrap64 (x3_27 + x15_53), 0)) else (some ((⟨#[]⟩ : ByteArray), 0, t387))) = some (r1, r2, r3) := H
                         have A84 := Aside0.mk A840
                         clear A840
                         by_cases c85 : t387 = 0
                         ·rw [if_pos c85] at H
                          have c85b0 : (t387 == 0) = true := beq_iff_eq.mpr c85
                          have c85b1 : (t387 != 0) = false := bne_eq_false_iff_eq.mpr c85
                          clear c85
                          simp only [Option.some.injEq, Prod.mk.injEq] at H
                          obtain ⟨rfl, rfl, rfl⟩ := H
                          have hcz86_0 : wc.cell? ⟨gb374, 0, none⟩ = some (.int .i64 a1_0) := (blk_cell BK374.out 0).trans rfl
                          have hcz86_1 : wc.cell? ⟨gb374, 1, none⟩ = some (.int .i64 a1_1) := (blk_cell BK374.out 1).trans rfl
                          have hcz86_2 : wc.cell? ⟨gb374, 2, none⟩ = some (.int .i64 a1_2) := (blk_cell BK374.out 2).trans rfl
                          have hcz86_3 : wc.cell? ⟨gb374, 3, none⟩ = some (.int .i64 a1_3) := (blk_cell BK374.out 3).trans rfl
                          have hcz86_4 : wc.cell? ⟨gb374, 4, none⟩ = some (.int .i64 a1_4) := (blk_cell BK374.out 4).trans rfl
                          have hfz86_0 := blk_frozen BK374.out 0
                          have hfz86_1 := blk_frozen BK374.out 1
                          have hfz86_2 := blk_frozen BK374.out 2
                          have hfz86_3 := blk_frozen BK374.out 3
                          have hfz86_4 := blk_frozen BK374.out 4
                          go_wp2_with (first | ((with_reducible refine gate_callee (f := 17) rfl ?_); refine goesL_ (some 144) rfl rfl Try.func17 (by kernel_rfl) rfl #[.agg #[.int .i64 a1_0, .int .i64 a1_1, .int .i64 a1_2, .int .i64 a1_3, .int .i64 a1_4], .string x16_62] rfl (by (try simp only [List.map_toArray, List.map_cons, List.map_nil]); first | done | rfl | (simp only [List.length_drop, List.length_take]; rfl)) ?_; (with_reducible refine (groatref11_Value.calls kj68 a1_0 a1_1 a1_2 a1_3 a1_4 x16_62 t387 _ A84.out).mono ?_); rintro e w87 ⟨rfl, hb⟩; refine ⟨_, rfl, ?_⟩; have n0_ := Aside0.mk (blk_below (g := gb374) (o := .cells #[.int .i64 a1_0, .int .i64 a1_1, .int .i64 a1_2, .int .i64 a1_3, .int .i64 a1_4] 23 (0, 0)) (by (with_reducible repeat (first | refine blk_drewN ?_ _ | refine blk_drew ?_ | refine blk_alloc ?_ _)); exact BK374.out) hb); have n1_ := Aside0.mk (below_step (by repeat (first | (with_reducible first | exact HB.out | apply below_alloc | apply pw_below_drewN | apply below_drew1 | refine below_set ?_ GE374.out) | exact HB.out)) hb); clear BK374; clear HB; have BK374 := n0_; have HB := n1_; clear n0_ n1_; (try clear hb); (try clear hb2); (try clear hk); (try clear hi)))
                          go_ret3
                          exact ⟨by first | rfl | (simp [errW_none, errW_some] <;> rfl) | (simp [*, errW_none, errW_some] <;> rfl), by repeat (first | (with_reducible first | exact HB.out | apply below_alloc | apply pw_below_drewN | apply below_drew1 | refine below_set ?_ GE374.out) | exact HB.out)⟩
                         ·rw [if_neg c85] at H
                          have c85b0 : (t387 == 0) = false := beq_eq_false_iff_ne.mpr c85
                          have c85b1 : (t387 != 0) = true := bne_iff_ne.mpr c85
                          simp only [Option.some.injEq, Prod.mk.injEq] at H
                          obtain ⟨rfl, rfl, rfl⟩ := H
                          have hcz88_0 : wc.cell? ⟨gb374, 0, none⟩ = some (.int .i64 a1_0) := (blk_cell BK374.out 0).trans rfl
                          have hcz88_1 : wc.cell? ⟨gb374, 1, none⟩ = some (.int .i64 a1_1) := (blk_cell BK374.out 1).trans rfl
                          have hcz88_2 : wc.cell? ⟨gb374, 2, none⟩ = some (.int .i64 a1_2) := (blk_cell BK374.out 2).trans rfl
                          have hcz88_3 : wc.cell? ⟨gb374, 3, none⟩ = some (.int .i64 a1_3) := (blk_cell BK374.out 3).trans rfl
                          have hcz88_4 : wc.cell? ⟨gb374, 4, none⟩ = some (.int .i64 a1_4) := (blk_cell BK374.out 4).trans rfl
                          have hfz88_0 := blk_frozen BK374.out 0
                          have hfz88_1 := blk_frozen BK374.out 1
                          have hfz88_2 := blk_frozen BK374.out 2
                          have hfz88_3 := blk_frozen BK374.out 3
                          have hfz88_4 := blk_frozen BK374.out 4
                          go_wp2_with (first | ((with_reducible refine gate_callee (f := 17) rfl ?_); refine goesL_ (some 144) rfl rfl Try.func17 (by kernel_rfl) rfl #[.agg #[.int .i64 a1_0, .int .i64 a1_1, .int .i64 a1_2, .int .i64 a1_3, .int .i64 a1_4], .string x16_62] rfl (by (try simp only [List.map_toArray, List.map_cons, List.map_nil]); first | done | rfl | (simp only [List.length_drop, List.length_take]; rfl)) ?_; (with_reducible refine (groatref11_Value.calls kj68 a1_0 a1_1 a1_2 a1_3 a1_4 x16_62 t387 _ A84.out).mono ?_); rintro e w89 ⟨rfl, hb⟩; refine ⟨_, rfl, ?_⟩; have n0_ := Aside0.mk (blk_below (g := gb374) (o := .cells #[.int .i64 a1_0, .int .i64 a1_1, .int .i64 a1_2, .int .i64 a1_3, .int .i64 a1_4] 23 (0, 0)) (by (with_reducible repeat (first | refine blk_drewN ?_ _ | refine blk_drew ?_ | refine blk_alloc ?_ _)); exact BK374.out) hb); have n1_ := Aside0.mk (below_step (by repeat (first | (with_reducible first | exact HB.out | apply below_alloc | apply pw_below_drewN | apply below_drew1 | refine below_set ?_ GE374.out) | exact HB.out)) hb); clear BK374; clear HB; have BK374 := n0_; have HB := n1_; clear n0_ n1_; (try clear hb); (try clear hb2); (try clear hk); (try clear hi)))
                          go_ret3
                          exact ⟨by first | rfl | (simp [errW_none, errW_some] <;> rfl) | (simp [*, errW_none, errW_some] <;> rfl), by repeat (first | (with_reducible first | exact HB.out | apply below_alloc | apply pw_below_drewN | apply below_drew1 | refine below_set ?_ GE374.out) | exact HB.out)⟩
                 ·rw [if_neg c59] at H
                  exact absurd H (by simp)
                ·rw [if_neg c58] at H
                 exact absurd H (by simp)
               ·rw [if_neg c57] at H
                exact absurd H (by simp)

end Go.Proofs.Ytfaeodcapagjbaa.P
