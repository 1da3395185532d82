import Derived.Test.YtkaihbkfobiejaaGreatDoorNgg
import Derived.Test.YtkaihbkfobiejaaGreatDoorNge
import Derived.Test.YtkaihbkfobiejaaGreatDoorNgf
/- The answer to a right message is right, in plain words. -/
namespace Go.Proofs.YtkaihbkfobiejaaGreatDoor.Sp
open Go Go.RowKit
set_option linter.unusedVariables false
set_option linter.unusedSimpArgs false
theorem getV_some {n : Int} : ∀ {l : List V}, n ∈ l.map Prod.fst → (getV n l).2 = true
  | [], h => by cases h
  | v :: m, h => by
    rw [getV]
    split
    · rfl
    · rename_i c
      rw [List.map_cons] at h
      rcases List.mem_cons.1 h with h | h
      · exact absurd h.symm c
      · exact getV_some h
theorem Rise.mem {s : List S5} : ∀ {l : List V} {p : Int} {v : V}, Rise s p l → v ∈ l → p < v.1 ∧ rightV s v
  | [], p, v, _, hv => by cases hv
  | u :: m, p, v, h, hv => by
    cases h with
    | cons h1 h2 h3 =>
      rcases List.mem_cons.1 hv with rfl | hv
      · exact ⟨h1, h2⟩
      · have := Rise.mem h3 hv
        exact ⟨by omega, this.2⟩
theorem Rise.withV {s : List S5} {n : Int} {x : ByteArray} {o : List V} (h : Rise s 0 o) (hn : 0 < n) (hr : rightV s (n, x)) : Rise s 0 (withV n x o) := (Rise.ins (without_ne n o) (h.without n)).2 ⟨hn, hr⟩
theorem echoed_rise {s : List S5} {l : List V} (hl : Rise s 0 l) : ∀ (m : List Int) (o : List V), Rise s 0 o → Rise s 0 (echoed l m o)
  | [], o, h => h
  | x :: m, o, h => by
    rw [echoed]
    refine echoed_rise hl m _ ?_
    split
    · rename_i c
      have := hl.mem (getV_mem x c)
      exact h.withV this.1 this.2
    · exact h
theorem codesE_none (p : S5) : ∀ (l b : List V) (i : Nat), codesE p b i l = none → ∀ v ∈ l, specA p (bl v.2) = 0
  | [], b, i, h, v, hv => by cases hv
  | u :: m, b, i, h, v, hv => by
    rw [codesE] at h
    split at h
    · cases h
    split at h
    · cases h
    split at h
    · cases h
    rename_i c
    rcases List.mem_cons.1 hv with rfl | hv
    · exact Decidable.not_not.1 c
    · exact codesE_none p m _ _ h v hv
theorem echoE_pos (s : List S5) : ∀ (l b : List Int) (i : Nat) (e : Int × Int × Int), echoE s b i l = some e → e.1 ≠ 0
  | [], b, i, e, h => by cases h
  | x :: m, b, i, e, h => by
    rw [echoE] at h
    split at h
    · cases h; exact (show (9 : Int) ≠ 0 by decide)
    split at h
    · cases h; exact (show (1 : Int) ≠ 0 by decide)
    split at h
    · cases h; exact (show (10 : Int) ≠ 0 by decide)
    exact echoE_pos s m _ _ e h
theorem codesE_pos (p : S5) : ∀ (l b : List V) (i : Nat) (e : Int × Int × Int), codesE p b i l = some e → e.1 ≠ 0
  | [], b, i, e, h => by cases h
  | x :: m, b, i, e, h => by
    rw [codesE] at h
    split at h
    · cases h; exact (show (1 : Int) ≠ 0 by decide)
    split at h
    · cases h; exact (show (10 : Int) ≠ 0 by decide)
    split at h
    · rename_i c; cases h; exact c
    exact codesE_pos p m _ _ e h
theorem rejE_zero {x : RJ} (h : (rejE x).1 = 0) : (schemaE x.1).1 = 0 ∧ (findS 39 x.1.2.2).2 = true ∧ (∀ v ∈ x.2.2.2, specA (findS 39 x.1.2.2).1 (bl v.2) = 0) ∧ (0 : Int) ∈ x.2.2.2.map Prod.fst := by
  unfold rejE at h
  by_cases c1 : (schemaE x.1).1 = 0
  · rw [if_neg (not_not_intro c1)] at h
    by_cases c2 : (findS 39 x.1.2.2).2 = false
    · rw [if_pos c2] at h; simp at h
    · rw [if_neg c2] at h
      have c2' : (findS 39 x.1.2.2).2 = true := by simpa using c2
      cases c3 : echoE x.1.2.2 [] 0 x.2.2.1 with
      | some e =>
        rw [c3] at h
        dsimp only at h
        exact absurd h (echoE_pos _ _ _ _ _ c3)
      | none =>
        rw [c3] at h
        dsimp only at h
        cases c4 : codesE (findS 39 x.1.2.2).1 [] 0 x.2.2.2 with
        | some e =>
          rw [c4] at h
          dsimp only at h
          exact absurd h (codesE_pos _ _ _ _ _ c4)
        | none =>
          rw [c4] at h
          dsimp only at h
          by_cases c5 : (0 : Int) ∈ x.2.2.2.map Prod.fst
          · exact ⟨c1, c2', codesE_none _ _ _ _ c4, c5⟩
          · rw [if_neg c5] at h; simp at h
  · rw [if_pos c1] at h; simp at h
theorem codeV_right {x : RJ} (h : (rejE x).1 = 0) (y : Int) : rightV x.1.2.2 (39, codeV y x.2.2.2) := by
  obtain ⟨-, h2, h3, h4⟩ := rejE_zero h
  refine ⟨h2, ?_⟩
  show specA (findS 39 x.1.2.2).1 (bl (codeV y x.2.2.2)) = 0
  unfold codeV
  split
  · rename_i c
    exact h3 _ (getV_mem y c)
  · exact h3 _ (getV_mem 0 (getV_some h4))
theorem answer_right {t : List UInt8} (h : asks t = true) : right (answer t) = true ∧ ((answer t).getD 0 0) = t.getD 0 0 ∧ asks (answer t) = false := by
  obtain ⟨a, b, c, d, rfl, -, ha, hb, hd, hc⟩ := asks_four h
  have e : answer [a, b, c, d] = [a, b, u8 (c.toNat + 1), d] := rfl
  have hi := inc_dig c hc
  have hi' : dig (u8 (c.toNat + 1)) = true := (dig_iff _).2 (by rw [hi]; omega)
  have hr := right_four ha hb hi' hd
  refine ⟨by rw [e]; exact hr, rfl, ?_⟩
  rw [e]
  unfold asks
  have g : (([a, b, u8 (c.toNat + 1), d] : List UInt8)[2]?.getD 0) = u8 (c.toNat + 1) := rfl
  rw [g, hi, decide_eq_false (by omega), decide_eq_false (by omega)]
  simp
theorem rejB_valid {x : RJ} {t : List UInt8} {l : List V} (h : (rejE x).1 = 0) (hm : msgE x.1 t l = (0, 0)) (ha : asks t = true) (y : Int) : msgE x.1 (answer t) (withV 39 (codeV y x.2.2.2) (echoed l x.2.2.1 [])) = (0, 0) := by
  obtain ⟨⟨m1, m2, m3⟩, m4⟩ := (msgE_zero _ _ _).1.1 hm
  obtain ⟨a1, a2, a3⟩ := answer_right ha
  exact (msgE_zero _ _ _).1.2 ⟨⟨m1, a1, by rw [a2]; exact m3⟩, (echoed_rise m4 _ _ .nil).withV (by decide) (codeV_right h y)⟩
end Go.Proofs.YtkaihbkfobiejaaGreatDoor.Sp

/- A schema with some of its fields alone. -/
namespace Go.Proofs.YtkaihbkfobiejaaGreatDoor.Sp
open Go Go.RowKit
set_option linter.unusedVariables false
set_option linter.unusedSimpArgs false
def restS (h g : Nat) (s : List S5) : List S5 := s.filter fun x => fhas h g x.1
theorem find_rest (h g : Nat) (n : Int) : ∀ s : List S5, findS n (restS h g s) = if fhas h g n = true then findS n s else ((0, 0, 0, 0, 0), false)
  | [] => by unfold restS findS; simp
  | v :: s => by
    have ih := find_rest h g n s
    unfold restS at ih ⊢
    rw [List.filter_cons]
    by_cases c : fhas h g v.1 = true
    · rw [if_pos c, findS, findS, ih]
      by_cases e : v.1 = n
      · rw [if_pos e, if_pos e, if_pos (by rw [← e]; exact c)]
      · rw [if_neg e, if_neg e]
    · rw [if_neg c, ih, findS]
      by_cases e : v.1 = n
      · rw [if_neg (by rw [← e]; exact c), if_neg (by rw [← e]; exact c)]
      · rw [if_neg e]
theorem right_rest (h g : Nat) (s : List S5) (v : V) : rightV (restS h g s) v ↔ rightV s v ∧ fhas h g v.1 = true := by
  unfold rightV
  rw [find_rest]
  by_cases c : fhas h g v.1 = true
  · rw [if_pos c]; exact ⟨fun x => ⟨x, c⟩, fun x => x.1⟩
  · rw [if_neg c]; exact ⟨fun x => (by cases x.1), fun x => absurd x.2 c⟩
theorem rise_rest (h g : Nat) (s : List S5) : ∀ (l : List V) (p : Int), Rise (restS h g s) p l ↔ Rise s p l ∧ ∀ v ∈ l, fhas h g v.1 = true
  | [], p => ⟨fun _ => ⟨.nil, fun _ hv => (by cases hv)⟩, fun _ => .nil⟩
  | v :: l, p => by
    constructor
    · intro hr
      cases hr with
      | cons a b c =>
        obtain ⟨b1, b2⟩ := (right_rest h g s v).1 b
        obtain ⟨c1, c2⟩ := (rise_rest h g s l v.1).1 c
        exact ⟨.cons a b1 c1, fun w hw => (List.mem_cons.1 hw).elim (fun e => by rw [e]; exact b2) (c2 w)⟩
    · rintro ⟨hr, hf⟩
      cases hr with
      | cons a b c => exact .cons a ((right_rest h g s v).2 ⟨b, hf v (List.mem_cons_self ..)⟩) ((rise_rest h g s l v.1).2 ⟨c, fun w hw => hf w (List.mem_cons_of_mem _ hw)⟩)
theorem schE_ok : ∀ (s : List S5) (p : Int) (i : Nat), (schE p i s).1 = 0 ↔ ((∀ v ∈ s, specE v.1 v.2.1 v.2.2.1 v.2.2.2.1 v.2.2.2.2 = 0 ∧ p < v.1) ∧ (s.map Prod.fst).Pairwise (· < ·))
  | [], p, i => ⟨fun _ => ⟨fun _ hv => (by cases hv), .nil⟩, fun _ => rfl⟩
  | v :: s, p, i => by
    rw [schE]
    by_cases c1 : specE v.1 v.2.1 v.2.2.1 v.2.2.2.1 v.2.2.2.2 = 0
    · rw [if_neg (not_not_intro c1)]
      by_cases c2 : v.1 ≤ p
      · rw [if_pos c2]
        exact ⟨fun h => (by cases h), fun h => (by have := (h.1 v (List.mem_cons_self ..)).2; omega)⟩
      · rw [if_neg c2, schE_ok s v.1 (i + 1), List.map_cons, List.pairwise_cons]
        constructor
        · rintro ⟨h1, h2⟩
          refine ⟨fun w hw => (List.mem_cons.1 hw).elim (fun e => by rw [e]; exact ⟨c1, by omega⟩) fun hw => ⟨(h1 w hw).1, by have := (h1 w hw).2; omega⟩, fun n hn => ?_, h2⟩
          obtain ⟨w, hw, rfl⟩ := List.mem_map.1 hn
          exact (h1 w hw).2
        · rintro ⟨h1, h2, h3⟩
          exact ⟨fun w hw => ⟨(h1 w (List.mem_cons_of_mem _ hw)).1, h2 w.1 (List.mem_map.2 ⟨w, hw, rfl⟩)⟩, h3⟩
    · rw [if_pos c1]
      exact ⟨fun h => absurd h c1, fun h => absurd (h.1 v (List.mem_cons_self ..)).1 c1⟩
theorem schemaE_rest (a b : Int) (h g : Nat) (s : List S5) (hs : (schemaE (a, b, s)).1 = 0) : (schemaE (a, b, restS h g s)).1 = 0 := by
  unfold schemaE at hs ⊢
  dsimp only at hs ⊢
  by_cases c1 : ¬ (a = 1 ∨ a = 2)
  · rw [if_pos c1] at hs; cases hs
  rw [if_neg c1] at hs ⊢
  by_cases c2 : b < 0 ∨ 9 < b
  · rw [if_pos c2] at hs; cases hs
  rw [if_neg c2] at hs ⊢
  obtain ⟨h1, h2⟩ := (schE_ok _ _ _).1 hs
  exact (schE_ok _ _ _).2 ⟨fun v hv => h1 v (List.mem_filter.1 hv).1, h2.sublist (List.filter_sublist.map _)⟩
theorem cell_rest (st : Int) (h g : Nat) (s : List S5) (v : V) (hv : fhas h g v.1 = true) : cellB st (restS h g s) v = cellB st s v := by
  unfold cellB
  rw [find_rest, if_pos hv]
theorem fields_rest (st : Int) (h g : Nat) (s : List S5) : ∀ (l : List V), (∀ v ∈ l, fhas h g v.1 = true) → fieldsB st (restS h g s) l = fieldsB st s l
  | [], _ => rfl
  | v :: l, hl => by
    unfold fieldsB
    rw [List.flatMap_cons, List.flatMap_cons, cell_rest st h g s v (hl v (List.mem_cons_self ..))]
    have := fields_rest st h g s l fun w hw => hl w (List.mem_cons_of_mem _ hw)
    unfold fieldsB at this
    rw [this]
/-- Whether all of a message's fields are of a set. -/
theorem inside_iff {h g : Nat} (hh : h < 18446744073709551616) (hg : g < 18446744073709551616) {s : List S5} {l : List V} (hr : Rise s 0 l) :
    ((setV l).1 &&& h = (setV l).1 ∧ (setV l).2 &&& g = (setV l).2) ↔ ∀ v ∈ l, fhas h g v.1 = true := by
  have hall := (rise_all hr).1
  have hs := setV_lt l
  have hb := fun j hj => all_bit (l.map Prod.fst) (0, 0) j hj
  constructor
  · rintro ⟨e1, e2⟩ v hv
    obtain ⟨h1, h2, h3⟩ := hall v.1 (List.mem_map.2 ⟨v, hv, rfl⟩)
    obtain ⟨n, hn⟩ : ∃ n : Nat, v.1 = (n : Int) := ⟨v.1.toNat, by omega⟩
    have ha := all_has (l.map Prod.fst) n (by omega) (by omega)
    rw [← hn, decide_eq_true (List.mem_map.2 ⟨v, hv, rfl⟩), hn] at ha
    rw [hn]
    have e1 : (withAll (l.map Prod.fst) (0, 0)).1 &&& h = (withAll (l.map Prod.fst) (0, 0)).1 := e1
    have e2 : (withAll (l.map Prod.fst) (0, 0)).2 &&& g = (withAll (l.map Prod.fst) (0, 0)).2 := e2
    rcases Nat.lt_or_ge 64 n with hc | hc
    · rw [fhas_low _ _ _ (by omega) (by omega)] at ha ⊢
      rw [← e2, Nat.testBit_and, Bool.and_eq_true] at ha
      exact ha.2
    · rw [fhas_high _ _ _ (by omega) hc] at ha ⊢
      rw [← e1, Nat.testBit_and, Bool.and_eq_true] at ha
      exact ha.2
  · intro hf
    have key : ∀ n : Nat, (n : Int) ∈ l.map Prod.fst → fhas h g (n : Int) = true := fun n hn => by
      obtain ⟨v, hv, e⟩ := List.mem_map.1 hn
      rw [← e]; exact hf v hv
    refine ⟨bits_eq (Nat.lt_of_le_of_lt Nat.and_le_left hs.1) hs.1 fun j hj => ?_, bits_eq (Nat.lt_of_le_of_lt Nat.and_le_left hs.2) hs.2 fun j hj => ?_⟩
    · rw [Nat.testBit_and]
      have h1 := (hb j hj).1
      rw [Nat.zero_testBit, Bool.false_or] at h1
      have h1 : (setV l).1.testBit (63 - j) = _ := h1
      rw [h1]
      by_cases c : ((1 + j : Nat) : Int) ∈ l.map Prod.fst
      · have := key _ c
        rw [fhas_high _ _ _ (by omega) (by omega), show 64 - (1 + j) = 63 - j by omega] at this
        rw [this, Bool.and_true]
      · rw [decide_eq_false c]; rfl
    · rw [Nat.testBit_and]
      have h1 := (hb j hj).2
      rw [Nat.zero_testBit, Bool.false_or] at h1
      have h1 : (setV l).2.testBit (63 - j) = _ := h1
      rw [h1]
      by_cases c : ((65 + j : Nat) : Int) ∈ l.map Prod.fst
      · have := key _ c
        rw [fhas_low _ _ _ (by omega) (by omega), show 128 - (65 + j) = 63 - j by omega] at this
        rw [this, Bool.and_true]
      · rw [decide_eq_false c]; rfl
/-- Under a schema with some fields alone just that is right which is right, and has these alone. -/
theorem msgE_rest {a b : Int} {s : List S5} (hs : (schemaE (a, b, s)).1 = 0) {h g : Nat} (hh : h < 18446744073709551616) (hg : g < 18446744073709551616) (t : List UInt8) (l : List V) :
    msgE (a, b, restS h g s) t l = (0, 0) ↔ msgE (a, b, s) t l = (0, 0) ∧ (setV l).1 &&& h = (setV l).1 ∧ (setV l).2 &&& g = (setV l).2 := by
  rw [(msgE_zero _ _ _).1, (msgE_zero _ _ _).1]
  constructor
  · rintro ⟨⟨-, h2, h3⟩, h4⟩
    obtain ⟨k1, k2⟩ := (rise_rest h g s l 0).1 h4
    exact ⟨⟨⟨hs, h2, h3⟩, k1⟩, (inside_iff hh hg k1).2 k2⟩
  · rintro ⟨⟨⟨-, h2, h3⟩, h4⟩, h5⟩
    exact ⟨⟨schemaE_rest a b h g s hs, h2, h3⟩, (rise_rest h g s l 0).2 ⟨h4, (inside_iff hh hg h4).1 h5⟩⟩
theorem wireB_rest {a b : Int} {s : List S5} {h g : Nat} (hh : h < 18446744073709551616) (hg : g < 18446744073709551616) {t : List UInt8} {l : List V} (hm : msgE (a, b, s) t l = (0, 0)) (hi : (setV l).1 &&& h = (setV l).1 ∧ (setV l).2 &&& g = (setV l).2) : wireB a (restS h g s) t l = wireB a s t l := by
  obtain ⟨-, hr⟩ := (msgE_zero _ _ _).1.1 hm
  unfold wireB
  rw [fields_rest a h g s l ((inside_iff hh hg hr).1 hi)]
end Go.Proofs.YtkaihbkfobiejaaGreatDoor.Sp

/- What a valid message's bytes are, once more. -/
namespace Go.Proofs.YtkaihbkfobiejaaGreatDoor.Sp
open Go Go.RowKit
set_option linter.unusedVariables false
set_option linter.unusedSimpArgs false
theorem wireB_ne {x : Int × Int × List S5} {t : List UInt8} {l : List V} (h : msgE x t l = (0, 0)) : wireB x.1 x.2.2 t l ≠ [] := by
  obtain ⟨⟨h1, h2, h3⟩, h4⟩ := (msgE_zero _ _ _).1.1 h
  have hl := typeB_length' (schema_style h1) h2
  intro e
  have e2 := congrArg List.length e
  unfold wireB at e2
  rw [List.length_append, List.length_append, hl] at e2
  unfold typeN at e2
  split at e2 <;> simp at e2
end Go.Proofs.YtkaihbkfobiejaaGreatDoor.Sp
