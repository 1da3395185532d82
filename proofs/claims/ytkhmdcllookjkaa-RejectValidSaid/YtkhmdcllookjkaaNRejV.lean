/- The answer to a right message is right, in plain words. -/
import Derived.Test.YtkhmdcllookjkaaNRej
import Derived.Test.YtkhmdcllookjkaaNMsgV
namespace Go.Proofs.Ytkhmdcllookjkaa.Sp
open Go Go.RowKit
set_option linter.unusedVariables false
set_option linter.unusedSimpArgs false
theorem getV_some {n : Int} : ∀ {l : List V}, n ∈ l.map Prod.fst → (getV n l).2 = true
  | [], h => by cases h
  | v :: m, h => by
    rw [getV]
    split
    · rfl
    · rename_i c
      rw [List.map_cons] at h
      rcases List.mem_cons.1 h with h | h
      · exact absurd h.symm c
      · exact getV_some h
theorem Rise.mem {s : List S5} : ∀ {l : List V} {p : Int} {v : V}, Rise s p l → v ∈ l → p < v.1 ∧ rightV s v
  | [], p, v, _, hv => by cases hv
  | u :: m, p, v, h, hv => by
    cases h with
    | cons h1 h2 h3 =>
      rcases List.mem_cons.1 hv with rfl | hv
      · exact ⟨h1, h2⟩
      · have := Rise.mem h3 hv
        exact ⟨by omega, this.2⟩
theorem Rise.withV {s : List S5} {n : Int} {x : ByteArray} {o : List V} (h : Rise s 0 o) (hn : 0 < n) (hr : rightV s (n, x)) : Rise s 0 (withV n x o) := (Rise.ins (without_ne n o) (h.without n)).2 ⟨hn, hr⟩
theorem echoed_rise {s : List S5} {l : List V} (hl : Rise s 0 l) : ∀ (m : List Int) (o : List V), Rise s 0 o → Rise s 0 (echoed l m o)
  | [], o, h => h
  | x :: m, o, h => by
    rw [echoed]
    refine echoed_rise hl m _ ?_
    split
    · rename_i c
      have := hl.mem (getV_mem x c)
      exact h.withV this.1 this.2
    · exact h
theorem codesE_none (p : S5) : ∀ (l b : List V) (i : Nat), codesE p b i l = none → ∀ v ∈ l, specA p (bl v.2) = 0
  | [], b, i, h, v, hv => by cases hv
  | u :: m, b, i, h, v, hv => by
    rw [codesE] at h
    split at h
    · cases h
    split at h
    · cases h
    split at h
    · cases h
    rename_i c
    rcases List.mem_cons.1 hv with rfl | hv
    · exact Decidable.not_not.1 c
    · exact codesE_none p m _ _ h v hv
theorem echoE_pos (s : List S5) : ∀ (l b : List Int) (i : Nat) (e : Int × Int × Int), echoE s b i l = some e → e.1 ≠ 0
  | [], b, i, e, h => by cases h
  | x :: m, b, i, e, h => by
    rw [echoE] at h
    split at h
    · cases h; exact (show (9 : Int) ≠ 0 by decide)
    split at h
    · cases h; exact (show (1 : Int) ≠ 0 by decide)
    split at h
    · cases h; exact (show (10 : Int) ≠ 0 by decide)
    exact echoE_pos s m _ _ e h
theorem codesE_pos (p : S5) : ∀ (l b : List V) (i : Nat) (e : Int × Int × Int), codesE p b i l = some e → e.1 ≠ 0
  | [], b, i, e, h => by cases h
  | x :: m, b, i, e, h => by
    rw [codesE] at h
    split at h
    · cases h; exact (show (1 : Int) ≠ 0 by decide)
    split at h
    · cases h; exact (show (10 : Int) ≠ 0 by decide)
    split at h
    · rename_i c; cases h; exact c
    exact codesE_pos p m _ _ e h
theorem rejE_zero {x : RJ} (h : (rejE x).1 = 0) : (schemaE x.1).1 = 0 ∧ (findS 39 x.1.2.2).2 = true ∧ (∀ v ∈ x.2.2.2, specA (findS 39 x.1.2.2).1 (bl v.2) = 0) ∧ (0 : Int) ∈ x.2.2.2.map Prod.fst := by
  unfold rejE at h
  by_cases c1 : (schemaE x.1).1 = 0
  · rw [if_neg (not_not_intro c1)] at h
    by_cases c2 : (findS 39 x.1.2.2).2 = false
    · rw [if_pos c2] at h; simp at h
    · rw [if_neg c2] at h
      have c2' : (findS 39 x.1.2.2).2 = true := by simpa using c2
      cases c3 : echoE x.1.2.2 [] 0 x.2.2.1 with
      | some e =>
        rw [c3] at h
        dsimp only at h
        exact absurd h (echoE_pos _ _ _ _ _ c3)
      | none =>
        rw [c3] at h
        dsimp only at h
        cases c4 : codesE (findS 39 x.1.2.2).1 [] 0 x.2.2.2 with
        | some e =>
          rw [c4] at h
          dsimp only at h
          exact absurd h (codesE_pos _ _ _ _ _ c4)
        | none =>
          rw [c4] at h
          dsimp only at h
          by_cases c5 : (0 : Int) ∈ x.2.2.2.map Prod.fst
          · exact ⟨c1, c2', codesE_none _ _ _ _ c4, c5⟩
          · rw [if_neg c5] at h; simp at h
  · rw [if_pos c1] at h; simp at h
theorem codeV_right {x : RJ} (h : (rejE x).1 = 0) (y : Int) : rightV x.1.2.2 (39, codeV y x.2.2.2) := by
  obtain ⟨-, h2, h3, h4⟩ := rejE_zero h
  refine ⟨h2, ?_⟩
  show specA (findS 39 x.1.2.2).1 (bl (codeV y x.2.2.2)) = 0
  unfold codeV
  split
  · rename_i c
    exact h3 _ (getV_mem y c)
  · exact h3 _ (getV_mem 0 (getV_some h4))
theorem answer_right {t : List UInt8} (h : asks t = true) : right (answer t) = true ∧ ((answer t).getD 0 0) = t.getD 0 0 ∧ asks (answer t) = false := by
  obtain ⟨a, b, c, d, rfl, -, ha, hb, hd, hc⟩ := asks_four h
  have e : answer [a, b, c, d] = [a, b, u8 (c.toNat + 1), d] := rfl
  have hi := inc_dig c hc
  have hi' : dig (u8 (c.toNat + 1)) = true := (dig_iff _).2 (by rw [hi]; omega)
  have hr := right_four ha hb hi' hd
  refine ⟨by rw [e]; exact hr, rfl, ?_⟩
  rw [e]
  unfold asks
  have g : (([a, b, u8 (c.toNat + 1), d] : List UInt8)[2]?.getD 0) = u8 (c.toNat + 1) := rfl
  rw [g, hi, decide_eq_false (by omega), decide_eq_false (by omega)]
  simp
theorem rejB_valid {x : RJ} {t : List UInt8} {l : List V} (h : (rejE x).1 = 0) (hm : msgE x.1 t l = (0, 0)) (ha : asks t = true) (y : Int) : msgE x.1 (answer t) (withV 39 (codeV y x.2.2.2) (echoed l x.2.2.1 [])) = (0, 0) := by
  obtain ⟨⟨m1, m2, m3⟩, m4⟩ := (msgE_zero _ _ _).1.1 hm
  obtain ⟨a1, a2, a3⟩ := answer_right ha
  exact (msgE_zero _ _ _).1.2 ⟨⟨m1, a1, by rw [a2]; exact m3⟩, (echoed_rise m4 _ _ .nil).withV (by decide) (codeV_right h y)⟩
end Go.Proofs.Ytkhmdcllookjkaa.Sp
