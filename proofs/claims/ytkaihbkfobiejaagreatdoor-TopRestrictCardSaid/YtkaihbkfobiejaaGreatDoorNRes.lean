/- A schema with some of its fields alone. -/
import Derived.Test.YtkaihbkfobiejaaGreatDoorNgf
namespace Go.Proofs.YtkaihbkfobiejaaGreatDoor.Sp
open Go Go.RowKit
set_option linter.unusedVariables false
set_option linter.unusedSimpArgs false
def restS (h g : Nat) (s : List S5) : List S5 := s.filter fun x => fhas h g x.1
theorem find_rest (h g : Nat) (n : Int) : ∀ s : List S5, findS n (restS h g s) = if fhas h g n = true then findS n s else ((0, 0, 0, 0, 0), false)
  | [] => by unfold restS findS; simp
  | v :: s => by
    have ih := find_rest h g n s
    unfold restS at ih ⊢
    rw [List.filter_cons]
    by_cases c : fhas h g v.1 = true
    · rw [if_pos c, findS, findS, ih]
      by_cases e : v.1 = n
      · rw [if_pos e, if_pos e, if_pos (by rw [← e]; exact c)]
      · rw [if_neg e, if_neg e]
    · rw [if_neg c, ih, findS]
      by_cases e : v.1 = n
      · rw [if_neg (by rw [← e]; exact c), if_neg (by rw [← e]; exact c)]
      · rw [if_neg e]
theorem right_rest (h g : Nat) (s : List S5) (v : V) : rightV (restS h g s) v ↔ rightV s v ∧ fhas h g v.1 = true := by
  unfold rightV
  rw [find_rest]
  by_cases c : fhas h g v.1 = true
  · rw [if_pos c]; exact ⟨fun x => ⟨x, c⟩, fun x => x.1⟩
  · rw [if_neg c]; exact ⟨fun x => (by cases x.1), fun x => absurd x.2 c⟩
theorem rise_rest (h g : Nat) (s : List S5) : ∀ (l : List V) (p : Int), Rise (restS h g s) p l ↔ Rise s p l ∧ ∀ v ∈ l, fhas h g v.1 = true
  | [], p => ⟨fun _ => ⟨.nil, fun _ hv => (by cases hv)⟩, fun _ => .nil⟩
  | v :: l, p => by
    constructor
    · intro hr
      cases hr with
      | cons a b c =>
        obtain ⟨b1, b2⟩ := (right_rest h g s v).1 b
        obtain ⟨c1, c2⟩ := (rise_rest h g s l v.1).1 c
        exact ⟨.cons a b1 c1, fun w hw => (List.mem_cons.1 hw).elim (fun e => by rw [e]; exact b2) (c2 w)⟩
    · rintro ⟨hr, hf⟩
      cases hr with
      | cons a b c => exact .cons a ((right_rest h g s v).2 ⟨b, hf v (List.mem_cons_self ..)⟩) ((rise_rest h g s l v.1).2 ⟨c, fun w hw => hf w (List.mem_cons_of_mem _ hw)⟩)
theorem schE_ok : ∀ (s : List S5) (p : Int) (i : Nat), (schE p i s).1 = 0 ↔ ((∀ v ∈ s, specE v.1 v.2.1 v.2.2.1 v.2.2.2.1 v.2.2.2.2 = 0 ∧ p < v.1) ∧ (s.map Prod.fst).Pairwise (· < ·))
  | [], p, i => ⟨fun _ => ⟨fun _ hv => (by cases hv), .nil⟩, fun _ => rfl⟩
  | v :: s, p, i => by
    rw [schE]
    by_cases c1 : specE v.1 v.2.1 v.2.2.1 v.2.2.2.1 v.2.2.2.2 = 0
    · rw [if_neg (not_not_intro c1)]
      by_cases c2 : v.1 ≤ p
      · rw [if_pos c2]
        exact ⟨fun h => (by cases h), fun h => (by have := (h.1 v (List.mem_cons_self ..)).2; omega)⟩
      · rw [if_neg c2, schE_ok s v.1 (i + 1), List.map_cons, List.pairwise_cons]
        constructor
        · rintro ⟨h1, h2⟩
          refine ⟨fun w hw => (List.mem_cons.1 hw).elim (fun e => by rw [e]; exact ⟨c1, by omega⟩) fun hw => ⟨(h1 w hw).1, by have := (h1 w hw).2; omega⟩, fun n hn => ?_, h2⟩
          obtain ⟨w, hw, rfl⟩ := List.mem_map.1 hn
          exact (h1 w hw).2
        · rintro ⟨h1, h2, h3⟩
          exact ⟨fun w hw => ⟨(h1 w (List.mem_cons_of_mem _ hw)).1, h2 w.1 (List.mem_map.2 ⟨w, hw, rfl⟩)⟩, h3⟩
    · rw [if_pos c1]
      exact ⟨fun h => absurd h c1, fun h => absurd (h.1 v (List.mem_cons_self ..)).1 c1⟩
theorem schemaE_rest (a b : Int) (h g : Nat) (s : List S5) (hs : (schemaE (a, b, s)).1 = 0) : (schemaE (a, b, restS h g s)).1 = 0 := by
  unfold schemaE at hs ⊢
  dsimp only at hs ⊢
  by_cases c1 : ¬ (a = 1 ∨ a = 2)
  · rw [if_pos c1] at hs; cases hs
  rw [if_neg c1] at hs ⊢
  by_cases c2 : b < 0 ∨ 9 < b
  · rw [if_pos c2] at hs; cases hs
  rw [if_neg c2] at hs ⊢
  obtain ⟨h1, h2⟩ := (schE_ok _ _ _).1 hs
  exact (schE_ok _ _ _).2 ⟨fun v hv => h1 v (List.mem_filter.1 hv).1, h2.sublist (List.filter_sublist.map _)⟩
theorem cell_rest (st : Int) (h g : Nat) (s : List S5) (v : V) (hv : fhas h g v.1 = true) : cellB st (restS h g s) v = cellB st s v := by
  unfold cellB
  rw [find_rest, if_pos hv]
theorem fields_rest (st : Int) (h g : Nat) (s : List S5) : ∀ (l : List V), (∀ v ∈ l, fhas h g v.1 = true) → fieldsB st (restS h g s) l = fieldsB st s l
  | [], _ => rfl
  | v :: l, hl => by
    unfold fieldsB
    rw [List.flatMap_cons, List.flatMap_cons, cell_rest st h g s v (hl v (List.mem_cons_self ..))]
    have := fields_rest st h g s l fun w hw => hl w (List.mem_cons_of_mem _ hw)
    unfold fieldsB at this
    rw [this]
/-- Whether all of a message's fields are of a set. -/
theorem inside_iff {h g : Nat} (hh : h < 18446744073709551616) (hg : g < 18446744073709551616) {s : List S5} {l : List V} (hr : Rise s 0 l) :
    ((setV l).1 &&& h = (setV l).1 ∧ (setV l).2 &&& g = (setV l).2) ↔ ∀ v ∈ l, fhas h g v.1 = true := by
  have hall := (rise_all hr).1
  have hs := setV_lt l
  have hb := fun j hj => all_bit (l.map Prod.fst) (0, 0) j hj
  constructor
  · rintro ⟨e1, e2⟩ v hv
    obtain ⟨h1, h2, h3⟩ := hall v.1 (List.mem_map.2 ⟨v, hv, rfl⟩)
    obtain ⟨n, hn⟩ : ∃ n : Nat, v.1 = (n : Int) := ⟨v.1.toNat, by omega⟩
    have ha := all_has (l.map Prod.fst) n (by omega) (by omega)
    rw [← hn, decide_eq_true (List.mem_map.2 ⟨v, hv, rfl⟩), hn] at ha
    rw [hn]
    have e1 : (withAll (l.map Prod.fst) (0, 0)).1 &&& h = (withAll (l.map Prod.fst) (0, 0)).1 := e1
    have e2 : (withAll (l.map Prod.fst) (0, 0)).2 &&& g = (withAll (l.map Prod.fst) (0, 0)).2 := e2
    rcases Nat.lt_or_ge 64 n with hc | hc
    · rw [fhas_low _ _ _ (by omega) (by omega)] at ha ⊢
      rw [← e2, Nat.testBit_and, Bool.and_eq_true] at ha
      exact ha.2
    · rw [fhas_high _ _ _ (by omega) hc] at ha ⊢
      rw [← e1, Nat.testBit_and, Bool.and_eq_true] at ha
      exact ha.2
  · intro hf
    have key : ∀ n : Nat, (n : Int) ∈ l.map Prod.fst → fhas h g (n : Int) = true := fun n hn => by
      obtain ⟨v, hv, e⟩ := List.mem_map.1 hn
      rw [← e]; exact hf v hv
    refine ⟨bits_eq (Nat.lt_of_le_of_lt Nat.and_le_left hs.1) hs.1 fun j hj => ?_, bits_eq (Nat.lt_of_le_of_lt Nat.and_le_left hs.2) hs.2 fun j hj => ?_⟩
    · rw [Nat.testBit_and]
      have h1 := (hb j hj).1
      rw [Nat.zero_testBit, Bool.false_or] at h1
      have h1 : (setV l).1.testBit (63 - j) = _ := h1
      rw [h1]
      by_cases c : ((1 + j : Nat) : Int) ∈ l.map Prod.fst
      · have := key _ c
        rw [fhas_high _ _ _ (by omega) (by omega), show 64 - (1 + j) = 63 - j by omega] at this
        rw [this, Bool.and_true]
      · rw [decide_eq_false c]; rfl
    · rw [Nat.testBit_and]
      have h1 := (hb j hj).2
      rw [Nat.zero_testBit, Bool.false_or] at h1
      have h1 : (setV l).2.testBit (63 - j) = _ := h1
      rw [h1]
      by_cases c : ((65 + j : Nat) : Int) ∈ l.map Prod.fst
      · have := key _ c
        rw [fhas_low _ _ _ (by omega) (by omega), show 128 - (65 + j) = 63 - j by omega] at this
        rw [this, Bool.and_true]
      · rw [decide_eq_false c]; rfl
/-- Under a schema with some fields alone just that is right which is right, and has these alone. -/
theorem msgE_rest {a b : Int} {s : List S5} (hs : (schemaE (a, b, s)).1 = 0) {h g : Nat} (hh : h < 18446744073709551616) (hg : g < 18446744073709551616) (t : List UInt8) (l : List V) :
    msgE (a, b, restS h g s) t l = (0, 0) ↔ msgE (a, b, s) t l = (0, 0) ∧ (setV l).1 &&& h = (setV l).1 ∧ (setV l).2 &&& g = (setV l).2 := by
  rw [(msgE_zero _ _ _).1, (msgE_zero _ _ _).1]
  constructor
  · rintro ⟨⟨-, h2, h3⟩, h4⟩
    obtain ⟨k1, k2⟩ := (rise_rest h g s l 0).1 h4
    exact ⟨⟨⟨hs, h2, h3⟩, k1⟩, (inside_iff hh hg k1).2 k2⟩
  · rintro ⟨⟨⟨-, h2, h3⟩, h4⟩, h5⟩
    exact ⟨⟨schemaE_rest a b h g s hs, h2, h3⟩, (rise_rest h g s l 0).2 ⟨h4, (inside_iff hh hg h4).1 h5⟩⟩
theorem wireB_rest {a b : Int} {s : List S5} {h g : Nat} (hh : h < 18446744073709551616) (hg : g < 18446744073709551616) {t : List UInt8} {l : List V} (hm : msgE (a, b, s) t l = (0, 0)) (hi : (setV l).1 &&& h = (setV l).1 ∧ (setV l).2 &&& g = (setV l).2) : wireB a (restS h g s) t l = wireB a s t l := by
  obtain ⟨-, hr⟩ := (msgE_zero _ _ _).1.1 hm
  unfold wireB
  rw [fields_rest a h g s l ((inside_iff hh hg hr).1 hi)]
end Go.Proofs.YtkaihbkfobiejaaGreatDoor.Sp
