/- The law on what is got. -/
import Derived.Test.YtkhmdcllookjkaaA16
import Derived.Test.YtkhmdcllookjkaaEr16
import Derived.Test.YtkhmdcllookjkaaXop
namespace Go.Proofs.Ytkhmdcllookjkaa.Xe
open Go Go.RowKit Go.Proofs.Ytkhmdcllookjkaa.Sp
set_option linter.unusedVariables false
set_option linter.unusedSimpArgs false
set_option maxRecDepth 100000
theorem fb1_bit (n : Int) (j : Nat) (hj : j < 64) : (fb1 n).testBit (63 - j) = decide (n = ((1 + j : Nat) : Int)) := by
  unfold fb1
  split
  · rw [Nat.testBit_two_pow]; exact decide_eq_decide.2 (by omega)
  · rw [Nat.zero_testBit]; exact (decide_eq_false (by omega)).symm
theorem fb2_bit (n : Int) (j : Nat) (hj : j < 64) : (fb2 n).testBit (63 - j) = decide (n = ((65 + j : Nat) : Int)) := by
  unfold fb2
  split
  · rw [Nat.testBit_two_pow]; exact decide_eq_decide.2 (by omega)
  · rw [Nat.zero_testBit]; exact (decide_eq_false (by omega)).symm
theorem isIn_cons (a : Int) (L : List Int) (n : Nat) : isIn (a :: L) n = (decide (a = (n : Int)) || isIn L n) := by
  unfold isIn
  rw [← Bool.decide_or]
  exact decide_eq_decide.2 (by rw [List.mem_cons]; exact ⟨fun h => h.imp Eq.symm id, fun h => h.imp Eq.symm id⟩)
theorem withAll_bit : ∀ (L : List Int) (h l j : Nat), j < 64 → (withAll L (h, l)).1.testBit (63 - j) = (h.testBit (63 - j) || isIn L (1 + j)) ∧ (withAll L (h, l)).2.testBit (63 - j) = (l.testBit (63 - j) || isIn L (65 + j))
  | [], h, l, j, hj => by simp [withAll, isIn]
  | a :: L, h, l, j, hj => by
    rw [withAll]
    obtain ⟨e1, e2⟩ := withAll_bit L (h ||| fb1 a) (l ||| fb2 a) j hj
    rw [e1, e2, Nat.testBit_or, Nat.testBit_or, fb1_bit a j hj, fb2_bit a j hj, isIn_cons, isIn_cons, Bool.or_assoc, Bool.or_assoc]
    exact ⟨rfl, rfl⟩
theorem withAll_lt : ∀ (L : List Int) (h l : Nat), h < 18446744073709551616 → l < 18446744073709551616 → (withAll L (h, l)).1 < 18446744073709551616 ∧ (withAll L (h, l)).2 < 18446744073709551616
  | [], h, l, h1, h2 => ⟨h1, h2⟩
  | a :: L, h, l, h1, h2 => withAll_lt L _ _ (Nat.or_lt_two_pow (n := 64) h1 (fb1_lt a)) (Nat.or_lt_two_pow (n := 64) h2 (fb2_lt a))
theorem withAll_hor (L : List Int) : withAll L (0, 0) = (hor (isIn L) 1 64, hor (isIn L) 65 64) := by
  obtain ⟨h1, h2⟩ := withAll_lt L 0 0 (by decide) (by decide)
  refine Prod.ext ?_ ?_
  · exact (hor_64 h1 fun j hj => by rw [(withAll_bit L 0 0 j hj).1, Nat.zero_testBit, Bool.false_or]).symm
  · exact (hor_64 h2 fun j hj => by rw [(withAll_bit L 0 0 j hj).2, Nat.zero_testBit, Bool.false_or]).symm
/-! ### groatlaw16_MsgGets -/
@[reducible] def groatlaw16_MsgGets.sg : List Shp := [.a (.pair (.str) (.sl (.pair (.int .i64) (.str)))), .v (.int .i64)]
@[reducible] def groatlaw16_MsgGets.rs : Rs := .one (.v (.bool))
@[reducible] noncomputable def groatlaw16_MsgGets.code : Code := Try.f7.body.getD .skip
noncomputable def groatlaw16_MsgGets.C : Ctx := ⟨tab, [groatlaw16_awake.c, groatref16_Great.c, groatref16_Copy.c, msg_Get.c, groatref16_Find.c, groatref05_Halves.c, groatref16_Numbers.c, msg_Set.c, fields_Bits.c], [], ⟨[], []⟩⟩
theorem groatlaw16_MsgGets.eq (n : Nat) (a0 : ByteArray) (a1 : List ((Int × ByteArray))) (a2 : Int) : call groatlaw16_MsgGets.C Try.f7 groatlaw16_MsgGets.code groatlaw16_MsgGets.sg groatlaw16_MsgGets.rs n ((a0, a1), a2) =
  ((groatlaw16_awake.f ()).bind fun b0 =>
  (if ¬b0 = true then ((groatlaw16_awake.f ()).bind fun b1 =>
   (some (decide (b1 = true))))
  else ((groatref16_Great.f (a0, a1)).bind fun b2 =>
   (if b2 = true then ((groatlaw16_awake.f ()).bind fun b3 =>
    (some (decide (b3 = true))))
   else ((groatref16_Copy.f (a0, a1)).bind fun b4 =>
    ((msg_Get.f (b4, a2)).bind fun b5 =>
    ((groatref16_Find.f ((a0, a1), a2)).bind fun b6 =>
    ((groatref16_Numbers.f (a0, a1)).bind fun b7 =>
    ((groatref05_Halves.f b7).bind fun b8 =>
    ((groatref16_Copy.f (a0, a1)).bind fun b9 =>
    ((msg_Set.f b9).bind fun b10 =>
    ((fields_Bits.f b8).bind fun b11 =>
    (if ¬(Prod.fst b10 = Prod.fst b11 ∧ Prod.snd b10 = Prod.snd b11 ∧ True) then (some false)
    else (if ¬decide (Prod.snd b5 = true) = decide (b6 ≥ 0) then (some false)
     else (if ¬Prod.snd b5 = true then (if Prod.fst b5 = ByteArray.mk #[] then (some true)
       else (if Prod.snd b5 = true then ((lget a1 b6).bind fun b12 =>
         (some (decide (Prod.fst b5 = Prod.snd b12))))
        else (some false)))
      else (if Prod.snd b5 = true then ((lget a1 b6).bind fun b13 =>
        (some (decide (Prod.fst b5 = Prod.snd b13))))
       else (some false))))))))))))))))) := by kernel_rfl
theorem groatlaw16_MsgGets.ok : CtxOk Try.prog groatlaw16_MsgGets.C := ⟨AllOk.all (show AllOk groatlaw16_MsgGets.C.G from ⟨groatlaw16_awake.con, groatref16_Great.con, groatref16_Copy.con, msg_Get.con, groatref16_Find.con, groatref05_Halves.con, groatref16_Numbers.con, msg_Set.con, fields_Bits.con, trivial⟩), fun c hc => absurd (show c ∈ ([] : List ConS) from hc) (by simp)⟩
theorem groatlaw16_MsgGets.holds (x : (ByteArray × List V) × Int) (w : (x.1.1.size ≤ 140737488351232 ∧ (x.1.2.length ≤ 140737488351232 ∧ ∀ v ∈ x.1.2, Wf (.pair (.int .i64) .str) v)) ∧ (Lit.int .i64 x.2).wf = true) : ∃ n, call groatlaw16_MsgGets.C Try.f7 groatlaw16_MsgGets.code groatlaw16_MsgGets.sg groatlaw16_MsgGets.rs n x = some true := by
  obtain ⟨⟨t, l⟩, n⟩ := x
  refine ⟨0, ?_⟩
  rw [groatlaw16_MsgGets.eq]
  simp only [groatlaw16_awake.f, Option.bind_some, not_true_eq_false, if_false, groatref16_Great]
  cases g1 : great t l with
  | true => simp
  | false =>
    obtain ⟨-, hl, -⟩ := great_no g1
    rw [if_neg (by simp), groatref16_Copy t l (by omega), Option.bind_some, msg_Get t l (by omega), Option.bind_some, groatref16_Find t l (by omega), Option.bind_some, groatref16_Numbers t l (by omega), Option.bind_some, groatref05_Halves _ (by rw [List.length_map]; omega), Option.bind_some, Option.bind_some, msg_Set t l (by omega), Option.bind_some, fields_Bits, Option.bind_some, withAll_hor]
    rw [if_neg (fun e => e ⟨rfl, rfl, trivial⟩)]
    rcases findV_get n l 0 with ⟨h1, h2⟩ | ⟨k, h1, h2, h3⟩
    · rw [h2]
      simp only [Bool.false_eq_true, decide_false]
      rw [decide_eq_false (by omega), if_neg (by simp)]
      simp [empty_sb]
    · rw [h3, h1, Nat.zero_add, lget_nat _ _ h2]
      simp
end Go.Proofs.Ytkhmdcllookjkaa.Xe
