/- The executor: what is let go at the beginning of a loop's round. -/
import Derived.Test.YtnhogpbibcgpkaaXv
namespace Go.Proofs.Ytnhogpbibcgpkaa.Xe
open Go Go.RowKit
set_option linter.unusedVariables false
set_option linter.unusedSimpArgs false
variable {P : Program} {R : Type} {w0 : World} {σ0 : Nat → Nat → Prop} {r : R} {C : Ctx} {ρ : Env} {σ : Nat → Nat → Prop} {w : World}
theorem ownsOf_spec (al : List Bool) : ∀ (l : List AV) (acc : List Nat), acc.Nodup → (∀ i ∈ acc, al[i]? = some true) → (ownsOf al l acc).Nodup ∧ (∀ i ∈ ownsOf al l acc, al[i]? = some true)
  | [], acc, h1, h2 => ⟨h1, h2⟩
  | .sl (some i) t x :: l, acc, h1, h2 => by
    simp only [ownsOf]
    split
    · rename_i hc
      simp only [Bool.and_eq_true, Bool.not_eq_true', List.contains_eq_mem, decide_eq_false_iff_not] at hc
      refine ownsOf_spec al l _ ?_ ?_
      · rw [List.nodup_append]
        refine ⟨h1, by simp, fun a ha b hb => ?_⟩
        simp at hb; subst hb
        exact fun e => hc.2 (by rw [← e]; exact ha)
      · intro j hj
        rcases List.mem_append.1 hj with hj | hj
        · exact h2 j hj
        · simp at hj; subst hj
          have := hc.1
          rw [List.getD_eq_getElem?_getD] at this
          cases hx : al[j]? with
          | none => rw [hx] at this; cases this
          | some b => rw [hx] at this; simp at this; rw [this]
    · exact ownsOf_spec al l acc h1 h2
  | .sl none t x :: l, acc, h1, h2 => ownsOf_spec al l acc h1 h2
  | .bld (some i) T x :: l, acc, h1, h2 => by
    simp only [ownsOf]
    split
    · rename_i hc
      simp only [Bool.and_eq_true, Bool.not_eq_true', List.contains_eq_mem, decide_eq_false_iff_not] at hc
      refine ownsOf_spec al l _ ?_ ?_
      · rw [List.nodup_append]
        refine ⟨h1, by simp, fun a ha b hb => ?_⟩
        simp at hb; subst hb
        exact fun e => hc.2 (by rw [← e]; exact ha)
      · intro j hj
        rcases List.mem_append.1 hj with hj | hj
        · exact h2 j hj
        · simp at hj; subst hj
          have := hc.1
          rw [List.getD_eq_getElem?_getD] at this
          cases hx : al[j]? with
          | none => rw [hx] at this; cases this
          | some b => rw [hx] at this; simp at this; rw [this]
    · exact ownsOf_spec al l acc h1 h2
  | .bld none T x :: l, acc, h1, h2 => ownsOf_spec al l acc h1 h2
  | .bld0 _ :: l, acc, h1, h2 | .row _ _ :: l, acc, h1, h2 | .ms _ _ _ _ :: l, acc, h1, h2 | .mse _ _ _ :: l, acc, h1, h2 | .emp _ :: l, acc, h1, h2 | .mp _ :: l, acc, h1, h2 | .keys _ _ _ _ :: l, acc, h1, h2 | .itr _ _ :: l, acc, h1, h2 | .int _ _ :: l, acc, h1, h2 | .bool _ _ :: l, acc, h1, h2 | .str _ :: l, acc, h1, h2 | .nilsl :: l, acc, h1, h2 | .ptr _ _ :: l, acc, h1, h2 | .nilp :: l, acc, h1, h2 | .elp _ _ _ :: l, acc, h1, h2 | .fn _ _ :: l, acc, h1, h2 | .agg _ :: l, acc, h1, h2 | .tup _ :: l, acc, h1, h2 | .junk :: l, acc, h1, h2 => ownsOf_spec al l acc h1 h2
def less (ρ : Env) (m : Nat) (ids : List Nat) : Env := ⟨fun b => if b < m then ρ.φ b else none, fun j => (ids[j]?).bind ρ.own, ids.length⟩
theorem renumLeaf_sound {base m : Nat} {ids : List Nat} {v : AV} {u : Value} (hc : clearLeaf m v = true) (g : RA ρ base σ w v u) : RA (less ρ m ids) base σ w (renumLeaf ids v) u := by
  cases v with
  | sl o t l =>
    cases o with
    | none => exact ⟨g.1, fun i e => by cases e⟩
    | some i =>
      simp only [renumLeaf]
      refine ⟨g.1, fun j e => ?_⟩
      split at e
      · rename_i hm
        obtain rfl := Option.some.inj e
        have hm' : i ∈ ids := by simpa using hm
        refine ⟨List.idxOf_lt_length_iff.2 hm', fun ow how => (g.2 i rfl).2 ow ?_⟩
        change (ids[ids.idxOf i]?).bind ρ.own = some ow at how
        rw [List.getElem?_eq_getElem (List.idxOf_lt_length_iff.2 hm'), List.getElem_idxOf] at how
        exact how
      · cases e
  | ptr b i =>
    obtain ⟨β, e1, e2⟩ := g
    refine ⟨β, ?_, e2⟩
    simp only [clearLeaf, decide_eq_true_eq] at hc
    show (if b < m then ρ.φ b else none) = some β
    rw [if_pos hc]; exact e1
  | fn f caps =>
    obtain ⟨vs, e, g⟩ := g
    refine ⟨vs, e, ?_⟩
    simp only [clearLeaf, List.all_eq_true] at hc
    refine RAs.mk g.length fun j a v hj hv => ?_
    obtain ⟨v', hv', g'⟩ := g.get hj
    rw [hv'] at hv
    obtain rfl := Option.some.inj hv
    have hc := hc a (List.mem_of_getElem? hj)
    split at hc
    · rename_i b i
      obtain ⟨β, e1, e2⟩ := g'
      refine ⟨β, ?_, e2⟩
      show (if b < m then ρ.φ b else none) = some β
      rw [if_pos (by simpa using hc)]; exact e1
    · exact g'
    · cases hc
  | ms b sz off n =>
    obtain ⟨A, cap, e1, e2, e3⟩ := g
    simp only [clearLeaf, decide_eq_true_eq] at hc
    refine ⟨A, cap, e1, e2, e3.imp id fun ⟨β, o, q1, q2⟩ => ⟨β, o, q1, q2.imp id fun q2 => ⟨?_, q2.2⟩⟩⟩
    show (if b < m then ρ.φ b else none) = some β
    rw [if_pos hc]; exact q2.1
  | mse b sz off =>
    obtain ⟨β, e1, e2⟩ := g
    refine ⟨β, ?_, e2⟩
    simp only [clearLeaf, decide_eq_true_eq] at hc
    show (if b < m then ρ.φ b else none) = some β
    rw [if_pos hc]; exact e1
  | bld i T l => exact g.elim
  | agg cs => cases hc
  | tup cs => cases hc
  | mp b =>
    obtain ⟨β, e1, e2⟩ := g
    refine ⟨β, ?_, e2⟩
    simp only [clearLeaf, decide_eq_true_eq] at hc
    show (if b < m then ρ.φ b else none) = some β
    rw [if_pos hc]; exact e1
  | bool p d => show u = Value.bool (decide (@decide p d = true)); rw [Bool.decide_eq_true]; exact g
  | _ => exact g
theorem Bld.less {P : Program} {base β : Nat} {i : Option Nat} {T : TypeId} {l : List Int} (h : Bld P ρ base σ w β i T l) (m : Nat) (ids : List Nat) : Bld P (less ρ m ids) base σ w β (i.bind fun i => if ids.contains i then some (ids.idxOf i) else none) T l := by
  obtain ⟨p, v, h1, h2, h5, h3⟩ := h
  refine ⟨p, v, h1, h2, h5, fun j ej => ?_⟩
  cases i with
  | none => cases ej
  | some i =>
    simp only [Option.bind_some] at ej
    split at ej
    · rename_i hm
      obtain rfl := Option.some.inj ej
      have hm' : i ∈ ids := by simpa using hm
      refine ⟨List.idxOf_lt_length_iff.2 hm', fun ow how => (h3 i rfl).2 ow ?_⟩
      change (ids[ids.idxOf i]?).bind ρ.own = some ow at how
      rw [List.getElem?_eq_getElem (List.idxOf_lt_length_iff.2 hm'), List.getElem_idxOf] at how
      exact how
    · cases ej
theorem renumLeafs_sound {base m : Nat} {ids : List Nat} : ∀ {vs : List AV} {us : List Value}, vs.all (clearLeaf m) = true → RAs ρ base σ w vs us → RAs (less ρ m ids) base σ w (vs.map (renumLeaf ids)) us
  | [], _, _, g => g
  | v :: vs, _, hc, ⟨u, q, e, g, k⟩ => by
    rw [List.all_cons, Bool.and_eq_true] at hc
    exact ⟨u, q, e, renumLeaf_sound hc.1 g, renumLeafs_sound hc.2 k⟩
theorem renum_sound {base m : Nat} {ids : List Nat} {v : AV} {u : Value} (hc : AV.clear m v = true) (g : RA ρ base σ w v u) : RA (less ρ m ids) base σ w (renum ids v) u := by
  cases v with
  | agg cs => obtain ⟨vs, e, g⟩ := g; exact ⟨vs, e, renumLeafs_sound hc g⟩
  | tup cs =>
    obtain ⟨vs, e, g⟩ := g
    simp only [AV.clear, List.isEmpty_iff] at hc
    subst hc
    exact ⟨vs, e, g⟩
  | int k n => exact renumLeaf_sound (v := .int k n) hc g
  | bool p d => exact renumLeaf_sound (v := .bool p d) hc g
  | str s => exact renumLeaf_sound (v := .str s) hc g
  | sl o t l => exact renumLeaf_sound (v := .sl o t l) hc g
  | mp b => exact renumLeaf_sound (v := .mp b) hc g
  | keys k e t l => exact g.elim
  | itr s p => exact g.elim
  | row t l => exact g.elim
  | bld i T l => exact g.elim
  | bld0 e => exact g.elim
  | ms b sz off n => exact renumLeaf_sound (v := .ms b sz off n) hc g
  | mse b sz off => exact renumLeaf_sound (v := .mse b sz off) hc g
  | emp t => exact renumLeaf_sound (v := .emp t) hc g
  | nilsl  => exact renumLeaf_sound (v := .nilsl ) hc g
  | ptr b i => exact renumLeaf_sound (v := .ptr b i) hc g
  | nilp  => exact renumLeaf_sound (v := .nilp ) hc g
  | elp t x i => exact renumLeaf_sound (v := .elp t x i) hc g
  | fn f c => exact renumLeaf_sound (v := .fn f c) hc g
  | junk  => exact renumLeaf_sound (v := .junk ) hc g
theorem keepOnly_get (lv : List Nat) : ∀ (l : List AV) (k i : Nat), (keepOnly lv k l).length = l.length ∧ ((keepOnly lv k l)[i]? = l[i]? ∨ (keepOnly lv k l)[i]? = some .junk ∧ i < l.length)
  | [], k, i => ⟨rfl, .inl rfl⟩
  | v :: l, k, i => by
    refine ⟨by simp [keepOnly, (keepOnly_get lv l (k + 1) 0).1], ?_⟩
    cases i with
    | zero =>
      simp only [keepOnly]
      split
      · exact .inl rfl
      · exact .inr ⟨rfl, by simp⟩
    | succ i =>
      have := (keepOnly_get lv l (k + 1) i).2
      simp only [keepOnly, List.getElem?_cons_succ, List.length_cons]
      exact this.imp id fun h => ⟨h.1, by omega⟩
theorem forget_sound {lv : List Nat} {m : Nat} {s s' : St} {a : Act} (hf : forget lv m s = some s') (h : Rel P w0 σ0 ρ σ s a w) : ∃ ρ', Rel P w0 σ0 ρ' σ s' a w := by
  unfold forget at hf
  dsimp only at hf
  split at hf
  · rename_i hc
    rw [Bool.and_eq_true] at hc
    obtain rfl := Option.some.inj hf
    generalize hids : ownsOf s.alive ((s.boxes.take m).flatten ++ (keepOnly lv 0 s.tmps).flatMap AV.cells) [] = ids
    obtain ⟨hn, ha⟩ := ownsOf_spec s.alive ((s.boxes.take m).flatten ++ (keepOnly lv 0 s.tmps).flatMap AV.cells) [] List.nodup_nil (fun i hi => by cases hi)
    rw [hids] at hn ha
    refine ⟨less ρ m ids, ⟨RAs.mk ?_ fun i b v hx hv => ?_, ?_⟩⟩
    · rw [List.length_map, (keepOnly_get lv s.tmps 0 0).1]; exact h.tmps.length
    · rw [List.getElem?_map] at hx
      obtain ⟨b0, hb0, rfl⟩ := Option.map_eq_some_iff.1 hx
      have hcl := List.all_eq_true.1 hc.1 b0 (List.mem_of_getElem? hb0)
      refine renum_sound hcl ?_
      rcases (keepOnly_get lv s.tmps 0 i).2 with e | ⟨e, _⟩
      · rw [e] at hb0
        obtain ⟨v', hv', g⟩ := h.tmps.get hb0
        rw [hv'] at hv
        obtain rfl := Option.some.inj hv
        exact g
      · rw [e] at hb0
        obtain rfl := Option.some.inj hb0
        trivial
    · refine ⟨h.heap.below, h.heap.fits, h.heap.sub, h.heap.old, fun b cs hb => ?_, fun b β hb => ?_, fun b b' β hb hb' => ?_, fun i β hi => ?_, fun i j β hi hj => ?_, fun i ow hi => ?_, by simp [less], fun i hi => ?_⟩
      · rw [List.getElem?_map] at hb
        obtain ⟨c0, hc0, rfl⟩ := Option.map_eq_some_iff.1 hb
        have hcl := List.all_eq_true.1 hc.2 c0 (List.mem_of_getElem? hc0)
        rw [List.getElem?_take] at hc0
        split at hc0
        · rename_i hbm
          obtain ⟨β, h1, h2⟩ := h.heap.box b c0 hc0
          refine ⟨β, by show (if b < m then _ else _) = _; rw [if_pos hbm]; exact h1, ?_⟩
          cases h2 with
          | cells vs e h2 h3 => exact .cells vs e h2 (renumLeafs_sound hcl h3)
          | map k e u l h2 h3 => exact .map k e u l (by rw [h2]; rfl) h3
          | iter z p h2 h3 => exact .iter z p (by rw [h2]; rfl) h3
          | rows u l vs e h2 h3 h4 => exact .rows u l vs e (by rw [h2]; rfl) h3 h4
          | build i T l h2 h3 => exact .build _ T l (by rw [h2]; cases i <;> rfl) (h3.less m ids)
          | fresh e h2 h3 => exact .fresh e (by rw [h2]; rfl) h3
        · cases hc0
      · change (if b < m then ρ.φ b else none) = some β at hb
        split at hb
        · rename_i hbm
          obtain ⟨h1, h2, h3, h4⟩ := h.heap.phi b β hb
          refine ⟨?_, h2, h3, h4⟩
          have h1 : (s.boxes[b]?).isSome = true := h1
          rw [List.getElem?_map, List.getElem?_take, if_pos hbm]
          simpa using h1
        · cases hb
      · change (if b < m then ρ.φ b else none) = some β at hb
        change (if b' < m then ρ.φ b' else none) = some β at hb'
        split at hb
        · split at hb'
          · exact h.heap.inj b b' β hb hb'
          · cases hb'
        · cases hb
      · change (ids[i]?).bind ρ.own = some (some β) at hi
        obtain ⟨k, _, hk⟩ := Option.bind_eq_some_iff.1 hi
        obtain ⟨h1, h2, h3⟩ := h.heap.own k β hk
        refine ⟨h1, h2, fun b hb => ?_⟩
        change (if b < m then ρ.φ b else none) = some β at hb
        split at hb
        · exact h3 b hb
        · cases hb
      · change (ids[i]?).bind ρ.own = some (some β) at hi
        change (ids[j]?).bind ρ.own = some (some β) at hj
        obtain ⟨k, hk1, hk⟩ := Option.bind_eq_some_iff.1 hi
        obtain ⟨k', hk2, hk'⟩ := Option.bind_eq_some_iff.1 hj
        have := h.heap.ownj k k' β hk hk'
        subst this
        obtain ⟨hi1, hi2⟩ := List.getElem?_eq_some_iff.1 hk1
        obtain ⟨hj1, hj2⟩ := List.getElem?_eq_some_iff.1 hk2
        exact (List.getElem_inj hn).1 (hi2.trans hj2.symm)
      · change (ids[i]?).bind ρ.own = some ow at hi
        obtain ⟨k, hk1, hk⟩ := Option.bind_eq_some_iff.1 hi
        rw [List.length_map]; exact (List.getElem?_eq_some_iff.1 hk1).1
      · rw [List.getElem?_map] at hi
        obtain ⟨k, hk, _⟩ := Option.map_eq_some_iff.1 hi
        obtain ⟨ow, how⟩ := h.heap.alive k (ha k (List.mem_of_getElem? hk))
        exact ⟨ow, by show (ids[i]?).bind ρ.own = _; rw [hk]; exact how⟩
  · cases hf
end Go.Proofs.Ytnhogpbibcgpkaa.Xe
