import Derived.Test.YtkaihbkfobiejaaGreatDoorXgg
import Derived.Test.YtkaihbkfobiejaaGreatDoorXt
import Derived.Test.YtkaihbkfobiejaaGreatDoorProg
import Derived.KernelRfl
/- The executor: what is let go at the beginning of a loop's round. -/
namespace Go.Proofs.YtkaihbkfobiejaaGreatDoor.Xe
open Go Go.RowKit
set_option linter.unusedVariables false
set_option linter.unusedSimpArgs false
variable {P : Program} {R : Type} {w0 : World} {σ0 : Nat → Nat → Prop} {r : R} {C : Ctx} {ρ : Env} {σ : Nat → Nat → Prop} {w : World}
theorem ownsOf_spec (al : List Bool) : ∀ (l : List AV) (acc : List Nat), acc.Nodup → (∀ i ∈ acc, al[i]? = some true) → (ownsOf al l acc).Nodup ∧ (∀ i ∈ ownsOf al l acc, al[i]? = some true)
  | [], acc, h1, h2 => ⟨h1, h2⟩
  | .sl (some i) t x :: l, acc, h1, h2 => by
    simp only [ownsOf]
    split
    · rename_i hc
      simp only [Bool.and_eq_true, Bool.not_eq_true', List.contains_eq_mem, decide_eq_false_iff_not] at hc
      refine ownsOf_spec al l _ ?_ ?_
      · rw [List.nodup_append]
        refine ⟨h1, by simp, fun a ha b hb => ?_⟩
        simp at hb; subst hb
        exact fun e => hc.2 (by rw [← e]; exact ha)
      · intro j hj
        rcases List.mem_append.1 hj with hj | hj
        · exact h2 j hj
        · simp at hj; subst hj
          have := hc.1
          rw [List.getD_eq_getElem?_getD] at this
          cases hx : al[j]? with
          | none => rw [hx] at this; cases this
          | some b => rw [hx] at this; simp at this; rw [this]
    · exact ownsOf_spec al l acc h1 h2
  | .sl none t x :: l, acc, h1, h2 => ownsOf_spec al l acc h1 h2
  | .bld (some i) T x :: l, acc, h1, h2 => by
    simp only [ownsOf]
    split
    · rename_i hc
      simp only [Bool.and_eq_true, Bool.not_eq_true', List.contains_eq_mem, decide_eq_false_iff_not] at hc
      refine ownsOf_spec al l _ ?_ ?_
      · rw [List.nodup_append]
        refine ⟨h1, by simp, fun a ha b hb => ?_⟩
        simp at hb; subst hb
        exact fun e => hc.2 (by rw [← e]; exact ha)
      · intro j hj
        rcases List.mem_append.1 hj with hj | hj
        · exact h2 j hj
        · simp at hj; subst hj
          have := hc.1
          rw [List.getD_eq_getElem?_getD] at this
          cases hx : al[j]? with
          | none => rw [hx] at this; cases this
          | some b => rw [hx] at this; simp at this; rw [this]
    · exact ownsOf_spec al l acc h1 h2
  | .bld none T x :: l, acc, h1, h2 => ownsOf_spec al l acc h1 h2
  | .bld0 _ :: l, acc, h1, h2 | .row _ _ :: l, acc, h1, h2 | .ms _ _ _ _ :: l, acc, h1, h2 | .mse _ _ _ :: l, acc, h1, h2 | .emp _ :: l, acc, h1, h2 | .mp _ :: l, acc, h1, h2 | .keys _ _ _ _ :: l, acc, h1, h2 | .itr _ _ :: l, acc, h1, h2 | .int _ _ :: l, acc, h1, h2 | .bool _ _ :: l, acc, h1, h2 | .str _ :: l, acc, h1, h2 | .nilsl :: l, acc, h1, h2 | .ptr _ _ :: l, acc, h1, h2 | .nilp :: l, acc, h1, h2 | .elp _ _ _ :: l, acc, h1, h2 | .fn _ _ :: l, acc, h1, h2 | .agg _ :: l, acc, h1, h2 | .tup _ :: l, acc, h1, h2 | .junk :: l, acc, h1, h2 => ownsOf_spec al l acc h1 h2
def less (ρ : Env) (m : Nat) (ids : List Nat) : Env := ⟨fun b => if b < m then ρ.φ b else none, fun j => (ids[j]?).bind ρ.own, ids.length⟩
theorem renumLeaf_sound {base m : Nat} {ids : List Nat} {v : AV} {u : Value} (hc : clearLeaf m v = true) (g : RA ρ base σ w v u) : RA (less ρ m ids) base σ w (renumLeaf ids v) u := by
  cases v with
  | sl o t l =>
    cases o with
    | none => exact ⟨g.1, fun i e => by cases e⟩
    | some i =>
      simp only [renumLeaf]
      refine ⟨g.1, fun j e => ?_⟩
      split at e
      · rename_i hm
        obtain rfl := Option.some.inj e
        have hm' : i ∈ ids := by simpa using hm
        refine ⟨List.idxOf_lt_length_iff.2 hm', fun ow how => (g.2 i rfl).2 ow ?_⟩
        change (ids[ids.idxOf i]?).bind ρ.own = some ow at how
        rw [List.getElem?_eq_getElem (List.idxOf_lt_length_iff.2 hm'), List.getElem_idxOf] at how
        exact how
      · cases e
  | ptr b i =>
    obtain ⟨β, e1, e2⟩ := g
    refine ⟨β, ?_, e2⟩
    simp only [clearLeaf, decide_eq_true_eq] at hc
    show (if b < m then ρ.φ b else none) = some β
    rw [if_pos hc]; exact e1
  | fn f caps =>
    obtain ⟨vs, e, g⟩ := g
    refine ⟨vs, e, ?_⟩
    simp only [clearLeaf, List.all_eq_true] at hc
    refine RAs.mk g.length fun j a v hj hv => ?_
    obtain ⟨v', hv', g'⟩ := g.get hj
    rw [hv'] at hv
    obtain rfl := Option.some.inj hv
    have hc := hc a (List.mem_of_getElem? hj)
    split at hc
    · rename_i b i
      obtain ⟨β, e1, e2⟩ := g'
      refine ⟨β, ?_, e2⟩
      show (if b < m then ρ.φ b else none) = some β
      rw [if_pos (by simpa using hc)]; exact e1
    · exact g'
    · cases hc
  | ms b sz off n =>
    obtain ⟨A, cap, e1, e2, e3⟩ := g
    simp only [clearLeaf, decide_eq_true_eq] at hc
    refine ⟨A, cap, e1, e2, e3.imp id fun ⟨β, o, q1, q2⟩ => ⟨β, o, q1, q2.imp id fun q2 => ⟨?_, q2.2⟩⟩⟩
    show (if b < m then ρ.φ b else none) = some β
    rw [if_pos hc]; exact q2.1
  | mse b sz off =>
    obtain ⟨β, e1, e2⟩ := g
    refine ⟨β, ?_, e2⟩
    simp only [clearLeaf, decide_eq_true_eq] at hc
    show (if b < m then ρ.φ b else none) = some β
    rw [if_pos hc]; exact e1
  | bld i T l => exact g.elim
  | agg cs => cases hc
  | tup cs => cases hc
  | mp b =>
    obtain ⟨β, e1, e2⟩ := g
    refine ⟨β, ?_, e2⟩
    simp only [clearLeaf, decide_eq_true_eq] at hc
    show (if b < m then ρ.φ b else none) = some β
    rw [if_pos hc]; exact e1
  | bool p d => show u = Value.bool (decide (@decide p d = true)); rw [Bool.decide_eq_true]; exact g
  | _ => exact g
theorem Bld.less {P : Program} {base β : Nat} {i : Option Nat} {T : TypeId} {l : List Int} (h : Bld P ρ base σ w β i T l) (m : Nat) (ids : List Nat) : Bld P (less ρ m ids) base σ w β (i.bind fun i => if ids.contains i then some (ids.idxOf i) else none) T l := by
  obtain ⟨p, v, h1, h2, h5, h3⟩ := h
  refine ⟨p, v, h1, h2, h5, fun j ej => ?_⟩
  cases i with
  | none => cases ej
  | some i =>
    simp only [Option.bind_some] at ej
    split at ej
    · rename_i hm
      obtain rfl := Option.some.inj ej
      have hm' : i ∈ ids := by simpa using hm
      refine ⟨List.idxOf_lt_length_iff.2 hm', fun ow how => (h3 i rfl).2 ow ?_⟩
      change (ids[ids.idxOf i]?).bind ρ.own = some ow at how
      rw [List.getElem?_eq_getElem (List.idxOf_lt_length_iff.2 hm'), List.getElem_idxOf] at how
      exact how
    · cases ej
theorem renumLeafs_sound {base m : Nat} {ids : List Nat} : ∀ {vs : List AV} {us : List Value}, vs.all (clearLeaf m) = true → RAs ρ base σ w vs us → RAs (less ρ m ids) base σ w (vs.map (renumLeaf ids)) us
  | [], _, _, g => g
  | v :: vs, _, hc, ⟨u, q, e, g, k⟩ => by
    rw [List.all_cons, Bool.and_eq_true] at hc
    exact ⟨u, q, e, renumLeaf_sound hc.1 g, renumLeafs_sound hc.2 k⟩
theorem renum_sound {base m : Nat} {ids : List Nat} {v : AV} {u : Value} (hc : AV.clear m v = true) (g : RA ρ base σ w v u) : RA (less ρ m ids) base σ w (renum ids v) u := by
  cases v with
  | agg cs => obtain ⟨vs, e, g⟩ := g; exact ⟨vs, e, renumLeafs_sound hc g⟩
  | tup cs =>
    obtain ⟨vs, e, g⟩ := g
    simp only [AV.clear, List.isEmpty_iff] at hc
    subst hc
    exact ⟨vs, e, g⟩
  | int k n => exact renumLeaf_sound (v := .int k n) hc g
  | bool p d => exact renumLeaf_sound (v := .bool p d) hc g
  | str s => exact renumLeaf_sound (v := .str s) hc g
  | sl o t l => exact renumLeaf_sound (v := .sl o t l) hc g
  | mp b => exact renumLeaf_sound (v := .mp b) hc g
  | keys k e t l => exact g.elim
  | itr s p => exact g.elim
  | row t l => exact g.elim
  | bld i T l => exact g.elim
  | bld0 e => exact g.elim
  | ms b sz off n => exact renumLeaf_sound (v := .ms b sz off n) hc g
  | mse b sz off => exact renumLeaf_sound (v := .mse b sz off) hc g
  | emp t => exact renumLeaf_sound (v := .emp t) hc g
  | nilsl  => exact renumLeaf_sound (v := .nilsl ) hc g
  | ptr b i => exact renumLeaf_sound (v := .ptr b i) hc g
  | nilp  => exact renumLeaf_sound (v := .nilp ) hc g
  | elp t x i => exact renumLeaf_sound (v := .elp t x i) hc g
  | fn f c => exact renumLeaf_sound (v := .fn f c) hc g
  | junk  => exact renumLeaf_sound (v := .junk ) hc g
theorem keepOnly_get (lv : List Nat) : ∀ (l : List AV) (k i : Nat), (keepOnly lv k l).length = l.length ∧ ((keepOnly lv k l)[i]? = l[i]? ∨ (keepOnly lv k l)[i]? = some .junk ∧ i < l.length)
  | [], k, i => ⟨rfl, .inl rfl⟩
  | v :: l, k, i => by
    refine ⟨by simp [keepOnly, (keepOnly_get lv l (k + 1) 0).1], ?_⟩
    cases i with
    | zero =>
      simp only [keepOnly]
      split
      · exact .inl rfl
      · exact .inr ⟨rfl, by simp⟩
    | succ i =>
      have := (keepOnly_get lv l (k + 1) i).2
      simp only [keepOnly, List.getElem?_cons_succ, List.length_cons]
      exact this.imp id fun h => ⟨h.1, by omega⟩
theorem forget_sound {lv : List Nat} {m : Nat} {s s' : St} {a : Act} (hf : forget lv m s = some s') (h : Rel P w0 σ0 ρ σ s a w) : ∃ ρ', Rel P w0 σ0 ρ' σ s' a w := by
  unfold forget at hf
  dsimp only at hf
  split at hf
  · rename_i hc
    rw [Bool.and_eq_true] at hc
    obtain rfl := Option.some.inj hf
    generalize hids : ownsOf s.alive ((s.boxes.take m).flatten ++ (keepOnly lv 0 s.tmps).flatMap AV.cells) [] = ids
    obtain ⟨hn, ha⟩ := ownsOf_spec s.alive ((s.boxes.take m).flatten ++ (keepOnly lv 0 s.tmps).flatMap AV.cells) [] List.nodup_nil (fun i hi => by cases hi)
    rw [hids] at hn ha
    refine ⟨less ρ m ids, ⟨RAs.mk ?_ fun i b v hx hv => ?_, ?_⟩⟩
    · rw [List.length_map, (keepOnly_get lv s.tmps 0 0).1]; exact h.tmps.length
    · rw [List.getElem?_map] at hx
      obtain ⟨b0, hb0, rfl⟩ := Option.map_eq_some_iff.1 hx
      have hcl := List.all_eq_true.1 hc.1 b0 (List.mem_of_getElem? hb0)
      refine renum_sound hcl ?_
      rcases (keepOnly_get lv s.tmps 0 i).2 with e | ⟨e, _⟩
      · rw [e] at hb0
        obtain ⟨v', hv', g⟩ := h.tmps.get hb0
        rw [hv'] at hv
        obtain rfl := Option.some.inj hv
        exact g
      · rw [e] at hb0
        obtain rfl := Option.some.inj hb0
        trivial
    · refine ⟨h.heap.below, h.heap.fits, h.heap.sub, h.heap.old, fun b cs hb => ?_, fun b β hb => ?_, fun b b' β hb hb' => ?_, fun i β hi => ?_, fun i j β hi hj => ?_, fun i ow hi => ?_, by simp [less], fun i hi => ?_⟩
      · rw [List.getElem?_map] at hb
        obtain ⟨c0, hc0, rfl⟩ := Option.map_eq_some_iff.1 hb
        have hcl := List.all_eq_true.1 hc.2 c0 (List.mem_of_getElem? hc0)
        rw [List.getElem?_take] at hc0
        split at hc0
        · rename_i hbm
          obtain ⟨β, h1, h2⟩ := h.heap.box b c0 hc0
          refine ⟨β, by show (if b < m then _ else _) = _; rw [if_pos hbm]; exact h1, ?_⟩
          cases h2 with
          | cells vs e h2 h3 => exact .cells vs e h2 (renumLeafs_sound hcl h3)
          | map k e u l h2 h3 => exact .map k e u l (by rw [h2]; rfl) h3
          | iter z p h2 h3 => exact .iter z p (by rw [h2]; rfl) h3
          | rows u l vs e h2 h3 h4 => exact .rows u l vs e (by rw [h2]; rfl) h3 h4
          | build i T l h2 h3 => exact .build _ T l (by rw [h2]; cases i <;> rfl) (h3.less m ids)
          | fresh e h2 h3 => exact .fresh e (by rw [h2]; rfl) h3
        · cases hc0
      · change (if b < m then ρ.φ b else none) = some β at hb
        split at hb
        · rename_i hbm
          obtain ⟨h1, h2, h3, h4⟩ := h.heap.phi b β hb
          refine ⟨?_, h2, h3, h4⟩
          have h1 : (s.boxes[b]?).isSome = true := h1
          rw [List.getElem?_map, List.getElem?_take, if_pos hbm]
          simpa using h1
        · cases hb
      · change (if b < m then ρ.φ b else none) = some β at hb
        change (if b' < m then ρ.φ b' else none) = some β at hb'
        split at hb
        · split at hb'
          · exact h.heap.inj b b' β hb hb'
          · cases hb'
        · cases hb
      · change (ids[i]?).bind ρ.own = some (some β) at hi
        obtain ⟨k, _, hk⟩ := Option.bind_eq_some_iff.1 hi
        obtain ⟨h1, h2, h3⟩ := h.heap.own k β hk
        refine ⟨h1, h2, fun b hb => ?_⟩
        change (if b < m then ρ.φ b else none) = some β at hb
        split at hb
        · exact h3 b hb
        · cases hb
      · change (ids[i]?).bind ρ.own = some (some β) at hi
        change (ids[j]?).bind ρ.own = some (some β) at hj
        obtain ⟨k, hk1, hk⟩ := Option.bind_eq_some_iff.1 hi
        obtain ⟨k', hk2, hk'⟩ := Option.bind_eq_some_iff.1 hj
        have := h.heap.ownj k k' β hk hk'
        subst this
        obtain ⟨hi1, hi2⟩ := List.getElem?_eq_some_iff.1 hk1
        obtain ⟨hj1, hj2⟩ := List.getElem?_eq_some_iff.1 hk2
        exact (List.getElem_inj hn).1 (hi2.trans hj2.symm)
      · change (ids[i]?).bind ρ.own = some ow at hi
        obtain ⟨k, hk1, hk⟩ := Option.bind_eq_some_iff.1 hi
        rw [List.length_map]; exact (List.getElem?_eq_some_iff.1 hk1).1
      · rw [List.getElem?_map] at hi
        obtain ⟨k, hk, _⟩ := Option.map_eq_some_iff.1 hi
        obtain ⟨ow, how⟩ := h.heap.alive k (ha k (List.mem_of_getElem? hk))
        exact ⟨ow, by show (ids[i]?).bind ρ.own = _; rw [hk]; exact how⟩
  · cases hf
end Go.Proofs.YtkaihbkfobiejaaGreatDoor.Xe

/- The executor: what a function answers, a call of it does. -/
namespace Go.Proofs.YtkaihbkfobiejaaGreatDoor.Xe
open Go Go.RowKit
set_option linter.unusedVariables false
set_option linter.unusedSimpArgs false
variable {P : Program} {R : Type} {w0 : World} {σ0 : Nat → Nat → Prop} {r : R} {C : Ctx} {ρ : Env} {σ : Nat → Nat → Prop} {w : World}
/-- From here on the code comes to its end, in a state in which r is the answer. -/
def Good (P : Program) (w0 : World) (σ0 : Nat → Nat → Prop) (fin : St → Option R) (r : R) (todo : List Item) (s : St) : Prop :=
  ∀ (ρ : Env) (σ : Nat → Nat → Prop) (a : Act) (w : World) (b : Frame) (cs : List Frame), Rel P w0 σ0 ρ σ s a w → a.defers = [] →
    ∃ a' w' todo' s' ρ' σ', Steps P (lone (b.at a todo) cs w) (lone { b.at a' todo' with mode := .returning } cs w') ∧ a'.defers = [] ∧ Rel P w0 σ0 ρ' σ' s' a' w' ∧ fin s' = some r
theorem Good.step {fin : St → Option R} {todo todo' : List Item} {s : St} (h : Good P w0 σ0 fin r todo' s) (hs : ∀ (a : Act) (w : World) (b : Frame) (cs : List Frame), Go.step P (lone (b.at a todo) cs w) = .next (lone (b.at a todo') cs w)) : Good P w0 σ0 fin r todo s :=
  fun ρ σ a w b cs hr hd => by
    obtain ⟨a', w', todo2, s', ρ', σ', h1, h2⟩ := h ρ σ a w b cs hr hd
    exact ⟨a', w', todo2, s', ρ', σ', .head (hs a w b cs) h1, h2⟩
theorem Good.ends {fin : St → Option R} {todo : List Item} {s : St} (h : fin s = some r) (hs : ∀ (a : Act) (w : World) (b : Frame) (cs : List Frame), Go.step P (lone (b.at a todo) cs w) = .next (lone { b.at a todo with mode := .returning } cs w)) : Good P w0 σ0 fin r todo s :=
  fun ρ σ a w b cs hr hd => ⟨a, w, todo, s, ρ, σ, .one (hs a w b cs), hd, hr, h⟩
theorem step_inScope {b : Frame} {a : Act} {k : List Item} {cs : List Frame} {w : World} {c : Code} : Go.step P (lone (b.at a (.inScope c :: k)) cs w) = .next (lone (b.at a k) cs w) :=
  step_lone_go (by simp [stepG, stepG.exec, Frame.at])
theorem step_scope {b : Frame} {a : Act} {k : List Item} {cs : List Frame} {w : World} {c : Code} : Go.step P (lone (b.at a (.code (.scope c) :: k)) cs w) = .next (lone (b.at a (.code c :: .inScope c :: k)) cs w) :=
  step_lone_go (by simp [stepG, stepG.exec, Frame.at])
theorem step_sound (hT : TabOk P C.T) (hG : CtxOk P C) (hm : P.follows .mixedOrders = true) {rec : List Item → St → Option R} {fin : St → Option R}
    (hrec : ∀ todo s, rec todo s = some r → ∀ b k, todo = .inLoop b :: k → Good P w0 σ0 fin r (.code b :: .inLoop b :: k) s) : ∀ (m : Nat) {todo : List Item} {s : St}, step C rec fin m todo s = some r → Good P w0 σ0 fin r todo s
  | 0, _, _, h => by simp [step] at h
  | m + 1, todo, s, h => by
    have ih := @step_sound hT hG hm rec fin hrec m
    unfold step at h
    split at h
    · exact Good.ends h fun a w b cs => step_end
    · rename_i c k
      split at h
      · exact (ih h).step fun a w b cs => step_skip
      · exact (ih h).step fun a w b cs => step_label
      · exact (ih h).step fun a w b cs => step_seq
      · rename_i c x y
        have key : ∀ {p : Prop} {d : Decidable p} {s1 : St} {z : Code}, ev s c = .bool p d → (∀ ρ σ a w, Rel P w0 σ0 ρ σ s a w → Rel P w0 σ0 ρ σ s1 a w) → z = (if @decide p d = true then x else y) → Good P w0 σ0 fin r (.code z :: k) s1 → Good P w0 σ0 fin r (.code (.cond c x y) :: k) s := by
          intro p d s1 z hc hrel hz hg ρ σ a w b cs hr hd
          have g := ev_sound hr.tmps c
          rw [hc] at g
          have g : a.eval c = .bool (@decide p d) := g
          obtain ⟨a', w', todo2, s', ρ', σ', h1, h2⟩ := hg ρ σ a w b cs (hrel _ _ _ _ hr) hd
          refine ⟨a', w', todo2, s', ρ', σ', .head (step_cond g) ?_, h2⟩
          rw [hz] at h1
          exact h1
        split at h
        · rename_i t p d hc
          have hc' : s.tmps.getD t .junk = .bool p d := hc
          have rel : ∀ {q : Prop} {dq : Decidable q}, Eqv (.bool p d) (.bool q dq) → ∀ ρ σ a w, Rel P w0 σ0 ρ σ s a w → Rel P w0 σ0 ρ σ (s.put (some t) (.bool q dq)) a w := fun he ρ σ a w hr => hr.refine fun v hv => by
            have g := hr.tmps.getD t
            rw [hc', List.getD_eq_getElem?_getD, hv] at g
            exact (he _ _ _ _ _).1 g
          split at h
          · rename_i hp
            exact key (z := x) hc (rel (eqv_true hp)) (by rw [if_pos (decide_eq_true hp)]) (ih h)
          · rename_i hp
            exact key (z := y) hc (rel (eqv_false hp)) (by rw [if_neg (by simp [hp])]) (ih h)
        · rename_i p d hc
          split at h
          · rename_i hp
            exact key (z := x) hc (fun _ _ _ _ hr => hr) (by rw [if_pos (decide_eq_true hp)]) (ih h)
          · rename_i hp
            exact key (z := y) hc (fun _ _ _ _ hr => hr) (by rw [if_neg (by simp [hp])]) (ih h)
        · cases h
      · exact (ih h).step fun a w b cs => step_block
      · rename_i c
        exact (hrec _ _ h c k rfl).step fun a w b cs => step_loop
      · exact (ih h).step fun a w b cs => step_scope
      · split at h
        · rename_i k' hk; exact (ih h).step fun a w b cs => step_exit hk
        · cases h
      · split at h
        · rename_i k' hk; exact (ih h).step fun a w b cs => step_goto hk
        · cases h
      · exact Good.ends h fun a w b cs => step_ret
      · rename_i id ops dr
        intro ρ σ a w b cs hr hd
        obtain ⟨e, a1, w1, hq, harr⟩ := xregion_sound hT hG hm h hr b k cs
        cases e with
        | normal =>
          obtain ⟨s1, ρ1, σ1, e1, e2, e3, e4⟩ := hq
          obtain ⟨a', w', todo2, s', ρ', σ', h1, h2⟩ := ih e1 ρ1 σ1 a1 w1 b cs e4 (by rw [e2]; exact hd)
          exact ⟨a', w', todo2, s', ρ', σ', Steps.trans harr h1, h2⟩
        | _ => exact hq.elim
      · cases h
    · exact (ih h).step fun a w b cs => step_inBlock
    · exact (ih h).step fun a w b cs => step_inScope
    · rename_i b k
      exact (hrec _ _ h b k rfl).step fun a w b cs => step_inLoop
    · cases h
theorem atLoop_sound {K : St → Option R} {todo : List Item} {s : St} {b : Code} {k : List Item} (e : todo = .inLoop b :: k) (h : atLoop C todo s K = some r) {fin : St → Option R}
    (hk : ∀ s', K s' = some r → Good P w0 σ0 fin r (.code b :: .inLoop b :: k) s') : Good P w0 σ0 fin r (.code b :: .inLoop b :: k) s := by
  subst e
  simp only [atLoop] at h
  split at h
  · split at h
    · split at h
      · rename_i s' hf
        intro ρ σ a w b' cs hr hd
        obtain ⟨ρ', hr'⟩ := forget_sound hf hr
        exact hk s' h ρ' σ a w b' cs hr' hd
      · cases h
    · cases h
  · cases h
theorem run_sound (hT : TabOk P C.T) (hG : CtxOk P C) (hm : P.follows .mixedOrders = true) {fin : St → Option R} : ∀ (n : Nat) {todo : List Item} {s : St}, run C fin n todo s = some r → ∀ b k, todo = .inLoop b :: k → Good P w0 σ0 fin r (.code b :: .inLoop b :: k) s
  | 0, _, _, h, _, _, _ => by simp [run] at h
  | n + 1, todo, s, h, b, k, e => by
    subst e
    simp only [run] at h
    exact step_sound hT hG hm (fun todo s hh b k e => atLoop_sound e hh fun s' hs' => run_sound hT hG hm n hs' b k e) steps h
def resSem (ts : Array Value) : ResultVar → Sem Value
  | .tmp t => pure (ts.getD t undef)
  | .cell p t => do loadVar t (← asAddr (ts.getD p undef))
theorem resOf_one (hT : TabOk P C.T) {s : St} {a : Act} (hr : Rel P w0 σ0 ρ σ s a w) {x : ResultVar} {v : AV} (h : resOf C s x = some v) : ∃ u, (resSem a.tmps x).run P w = .ok u w ∧ RA ρ w0.heap.size σ w v u := by
  cases x with
  | tmp t =>
    obtain rfl := Option.some.inj h
    refine ⟨_, rfl, ?_⟩
    rw [getD_list]; exact hr.tmps.getD t
  | cell p t =>
    have h : xload C s t (s.tmps.getD p .junk) some = some v := h
    have g := hr.tmps.getD p
    rw [← getD_list] at g
    obtain ⟨av, u, q1, q2, q3⟩ := load_yields (K := some) (P := P) hT hr.heap (fun b cs _ _ _ hb => hb) h g
    obtain rfl := Option.some.inj q2
    refine ⟨u, ?_, q3⟩
    have hpt : ∃ ad, a.tmps.getD p undef = .pointer (some ad) := by
      unfold xload at h
      split at h
      · rename_i cs hc
        unfold cellsAt at hc
        split at hc
        · rename_i hh; rw [hh] at g; obtain ⟨β, _, e⟩ := g; exact ⟨_, e⟩
        · rename_i hh; rw [hh] at g; obtain ⟨β, _, _, e, _⟩ := g; exact ⟨_, e⟩
        · cases hc
      · cases h
    obtain ⟨ad, had⟩ := hpt
    simp only [resSem, had] at q1 ⊢
    simpa [Instr.loadAt, Instr.sureAddr, asAddr] using q1
theorem resOf_sound (hT : TabOk P C.T) {s : St} {a : Act} (hr : Rel P w0 σ0 ρ σ s a w) : ∀ {l : List ResultVar} {vs : List AV}, resAll C s l = some vs → ∃ us : List Value, (l.mapM (resSem a.tmps)).run P w = .ok us w ∧ RAs ρ w0.heap.size σ w vs us
  | [], vs, h => by
    obtain rfl := Option.some.inj h
    exact ⟨[], by simp, rfl⟩
  | x :: l, vs, h => by
    simp only [resAll] at h
    split at h
    · rename_i v vs' h1 h2
      obtain rfl := Option.some.inj h
      obtain ⟨us, e1, e2⟩ := resOf_sound hT hr h2
      obtain ⟨u, e3, e4⟩ := resOf_one hT hr h1
      refine ⟨u :: us, ?_, u, us, rfl, e4, e2⟩
      rw [List.mapM_cons]
      simp only [Sem.run_bind, e3, Result.andThen_ok, e1, Sem.run_pure]
    · cases h
theorem results_eq (fn : Func) (ts : Array Value) : results fn ts = (do
    let us ← fn.results.toList.mapM (resSem ts)
    pure (if h : us.toArray.size = 1 then us.toArray[0] else .tuple us.toArray)) := by
  unfold results
  rw [Array.mapM_eq_mapM_toList, map_eq_pure_bind, bind_assoc]
  simp only [pure_bind]
  congr 1
theorem thawLeaf_sound {s : St} (h : HR P w0 σ0 ρ σ (fun b => s.boxes[b]?) s.alive w) {v : AV} {u : Value} {R : Type} {K : AV → Option R} {r : R} (hk : thawLeaf s v K = some r) (g : RA ρ w0.heap.size σ w v u) : ∃ v', K v' = some r ∧ RA ρ w0.heap.size (Still ρ σ) w v' u := by
  unfold thawLeaf at hk
  split at hk
  · rename_i b sz n
    split at hk
    · rename_i t l hr
      split at hk
      · rename_i hs
        obtain ⟨z, hz, hk⟩ := Option.bind_eq_some_iff.1 hk
        unfold lpart at hz
        split at hz
        · rename_i hle
          obtain rfl := Option.some.inj hz
          refine ⟨_, hk, ?_, fun i e => by cases e⟩
          obtain ⟨A, cap, e1, e2, e3⟩ := g
          obtain ⟨β, q1, q2⟩ := h.box b _ (rowOf_some hr)
          obtain ⟨us, e', q3, q4⟩ := q2.row
          have hln : ((l.drop 0).take n).length = n := by rw [List.length_take, List.length_drop]; omega
          refine ⟨A, cap, by rw [hln, e1], by rw [hln]; exact e2, ?_⟩
          rcases e3 with ⟨rfl, hn⟩ | ⟨β', o, rfl, e3⟩
          · exact .inl (List.eq_nil_of_length_eq_zero (by rw [hln, hn]))
          · by_cases hn : n = 0
            · exact .inl (List.eq_nil_of_length_eq_zero (by rw [hln, hn]))
            · right
              obtain ⟨q5, q6⟩ := e3.resolve_left hn
              rw [q1] at q5
              obtain rfl := Option.some.inj q5
              rw [Nat.zero_mul] at q6
              subst q6
              refine ⟨β, 0, us.toList.take (n * t.sz), rfl, ?_, fun j v hv => ⟨.inr ⟨b, q1⟩, ?_⟩⟩
              · rw [List.drop_zero]
                exact RLs.mono (fun _ _ => RE.mono h.still.1.toKeeps) (q4.take' n)
              · rw [List.getElem?_take] at hv
                split at hv
                · rw [Nat.zero_add, cell_of_row w β j us e' (0, 0) q3, ← Array.getElem?_toList]; exact hv
                · cases hv
        · cases hz
      · cases hk
    · cases hk
  · exact ⟨v, hk, RA.mono h.still.1 _ g⟩
theorem thawLeaves_sound {s : St} (h : HR P w0 σ0 ρ σ (fun b => s.boxes[b]?) s.alive w) {R : Type} {r : R} : ∀ {vs : List AV} {us : List Value} {K : List AV → Option R}, thawLeaves s vs K = some r → RAs ρ w0.heap.size σ w vs us → ∃ vs', K vs' = some r ∧ RAs ρ w0.heap.size (Still ρ σ) w vs' us
  | [], us, K, hk, g => ⟨[], hk, g⟩
  | v :: vs, us, K, hk, ⟨u, q, e, g, k⟩ => by
    obtain ⟨v', h1, h2⟩ := thawLeaf_sound h hk g
    obtain ⟨vs', h3, h4⟩ := thawLeaves_sound h h1 k
    exact ⟨v' :: vs', h3, u, q, e, h2, h4⟩
theorem thaw_sound {s : St} (h : HR P w0 σ0 ρ σ (fun b => s.boxes[b]?) s.alive w) {v : AV} {u : Value} {R : Type} {K : AV → Option R} {r : R} (hk : thaw s v K = some r) (g : RA ρ w0.heap.size σ w v u) : ∃ v', K v' = some r ∧ RA ρ w0.heap.size (Still ρ σ) w v' u := by
  unfold thaw at hk
  split at hk
  · obtain ⟨us, e, g⟩ := g
    obtain ⟨vs', h1, h2⟩ := thawLeaves_sound h hk g
    exact ⟨_, h1, us, e, h2⟩
  · exact thawLeaf_sound h hk g
theorem thaws_sound {s : St} (h : HR P w0 σ0 ρ σ (fun b => s.boxes[b]?) s.alive w) {R : Type} {r : R} : ∀ {vs : List AV} {us : List Value} {K : List AV → Option R}, thaws s vs K = some r → RAs ρ w0.heap.size σ w vs us → ∃ vs', K vs' = some r ∧ RAs ρ w0.heap.size (Still ρ σ) w vs' us
  | [], us, K, hk, g => ⟨[], hk, g⟩
  | v :: vs, us, K, hk, ⟨u, q, e, g, k⟩ => by
    obtain ⟨v', h1, h2⟩ := thaw_sound h hk g
    obtain ⟨vs', h3, h4⟩ := thaws_sound h h1 k
    exact ⟨v' :: vs', h3, u, q, e, h2, h4⟩
theorem results_sound (hT : TabOk P C.T) {fn : Func} {rs : Rs} {s : St} {a : Act} {x : El rs.ty} (hr : Rel P w0 σ0 ρ σ s a w) (h : finOf C fn rs s = some x) : ∃ v, (results fn a.tmps).run P w = .ok v w ∧ RR (Still ρ σ) w rs x v := by
  unfold finOf at h
  have key : ∀ {vs : List AV}, resAll C s fn.results.toList = some vs → ∃ us : List Value, RAs ρ w0.heap.size σ w vs us ∧ (results fn a.tmps).run P w = .ok (if h : us.toArray.size = 1 then us.toArray[0] else .tuple us.toArray) w := by
    intro vs hv
    obtain ⟨us, e1, e2⟩ := resOf_sound hT hr hv
    refine ⟨us, e2, ?_⟩
    rw [results_eq]
    simp only [Sem.run_bind, Sem.run_pure, e1, Result.andThen_ok]
  split at h
  · rename_i v hv
    obtain ⟨us, e1, e2⟩ := key hv
    obtain ⟨u, q, rfl, g, hq⟩ := e1
    obtain rfl : q = [] := hq
    obtain ⟨v', h1, h2⟩ := thaw_sound hr.heap h g
    exact ⟨u, by rw [e2]; rfl, decR_sound h1 h2⟩
  · rename_i vs hne hv
    obtain ⟨us, e1, e2⟩ := key hv
    obtain ⟨vs', h1, h2⟩ := thaws_sound hr.heap h e1
    refine ⟨.tuple us.toArray, ?_, decR_sound h1 ⟨us.toArray, rfl, by simpa using h2⟩⟩
    rw [e2, dif_neg]
    intro h1
    have hl := e1.length
    have : vs.length = 1 := by rw [← hl]; simpa using h1
    obtain ⟨y, hy⟩ := List.length_eq_one_iff.1 this
    exact hne y (by rw [← hy])
  · cases h
/-- A call, from values that the caller holds. -/
theorem call_sound (hT : TabOk P C.T) (hG : CtxOk P C) (hm : P.follows .mixedOrders = true) {f : FuncId} {fn : Func} {c : Code} {sg : List Shp} {rs : Rs} {n : Nat} {x : El (sgTy sg)} {y : El rs.ty} (hf : P.funcs[f]? = some fn) (hb : fn.body = some c)
    (h : call C fn c sg rs n x = some y) {vs : List Value} (hσ : Fits σ0 w0) (hs : RS σ0 w0 sg x vs) :
    Calls P f vs.toArray w0 fun e w' => ∃ v σ', e = .returned v ∧ Grow σ0 w0 σ' w' ∧ RR σ' w' rs y v := by
  intro cs
  have hra := RS.ra (ρ := ⟨fun _ => none, fun _ => none, 0⟩) (base := w0.heap.size) hs
  have hl : vs.length = (encs sg x).length := hra.length
  let b : Frame := { (default : Frame) with fn := f, kind := .normal }
  let a0 : Act := { tmps := vs.toArray ++ Array.replicate (fn.ntmps - vs.toArray.size) undef, defers := [] }
  have henter : Frame.enter P f vs.toArray .normal = b.at a0 [.code c] := by
    simp [Frame.enter, Frame.at, hf, hb, b, a0]
  have hrel : Rel P w0 σ0 ⟨fun _ => none, fun _ => none, 0⟩ σ0 (enter fn (encs sg x)) a0 w0 := by
    refine ⟨?_, ⟨Below.refl _ _, hσ, fun _ _ h => h, fun _ _ h => .inl h, fun b cs h => by simp [enter] at h, fun b β h => (by cases h), fun b b' β h => (by cases h), fun i β h => (by cases h), fun i j β h => (by cases h), fun i ow h => (by cases h), rfl, fun i h => by simp [enter] at h⟩⟩
    show RAs _ _ _ _ (encs sg x ++ List.replicate (fn.ntmps - (encs sg x).length) (.tup [])) (vs.toArray ++ Array.replicate (fn.ntmps - vs.toArray.size) undef).toList
    have hsz : vs.toArray.size = (encs sg x).length := by rw [List.size_toArray, hl]
    rw [Array.toList_append, Array.toList_replicate, hsz]
    refine hra.append (RAs.mk (by simp) fun i a v ha hv => ?_)
    have h1 := List.mem_of_getElem? ha
    have h2 := List.mem_of_getElem? hv
    rw [List.eq_of_mem_replicate h1, List.eq_of_mem_replicate h2]
    exact ⟨#[], rfl, rfl⟩
  obtain ⟨a', w', todo', s', ρ', σ', h1, h2, h3, h4⟩ := step_sound (P := P) (w0 := w0) (σ0 := σ0) hT hG hm (fun todo s hh b k e => atLoop_sound e hh fun s' hs' => run_sound hT hG hm n hs' b k e) steps h _ _ a0 w0 b cs hrel rfl
  obtain ⟨v, r1, r2⟩ := results_sound hT h3 h4
  refine ⟨.returned v, w', _, ⟨v, _, rfl, ⟨h3.heap.below, fun b o x => .inl (h3.heap.sub b o x), fun b o x => x.elim (h3.heap.old b o) fun ⟨z, hz⟩ => .inr (h3.heap.phi z b hz).2.1, h3.heap.still.2⟩, r2⟩, by rw [henter]; exact h1, rfl, rfl, h2, rfl, fn, hf, r1⟩
theorem con_ok (hT : TabOk P C.T) (hG : CtxOk P C) (hm : P.follows .mixedOrders = true) {c : Con} {fn : Func} {code : Code} (hf : P.funcs[c.id]? = some fn) (hb : fn.body = some code) (hn : (fn.name == "runtime.NumGoroutine") = false)
    (h : ∀ x y, c.f x = some y → ∃ n, call C fn code c.sg c.rs n x = some y) : ConOk P c :=
  ⟨⟨fn, hf, by rw [hb]; rfl, hn⟩, fun x y hxy σ w vs hσ hs => by
    obtain ⟨n, hn⟩ := h x y hxy
    exact call_sound hT hG hm hf hb hn hσ hs⟩
end Go.Proofs.YtkaihbkfobiejaaGreatDoor.Xe

/- The executor: words for walks that are printed. -/
namespace Go.Proofs.YtkaihbkfobiejaaGreatDoor.Xe
open Go
/-- What is to be done at the beginning of each loop. -/
def loopsIn : List Item → Code → List (List Item)
  | k, .loop b => (.inLoop b :: k) :: loopsIn (.inLoop b :: k) b
  | k, .seq a b => loopsIn (.code b :: k) a ++ loopsIn k b
  | k, .cond _ a b => loopsIn k a ++ loopsIn k b
  | k, .block id b => loopsIn (.inBlock id :: k) b
  | k, .scope b => loopsIn (.inScope b :: k) b
  | _, _ => []
def todoAt (id : Nat) (c : Code) : List Item := ((loopsIn [] c).find? fun t => match t with | .inLoop b :: _ => firstRegion b == some id | _ => false).getD []
theorem tabOk : TabOk Tryz.prog tab := by
  show tab.zipIdx.map (fun q => mkTI Tryz.prog q.2 q.1) = tab
  kernel_rfl
theorem mixed : Tryz.prog.follows .mixedOrders = true := by kernel_rfl
def AllOk : List Con → Prop
  | [] => True
  | c :: l => ConOk Tryz.prog c ∧ AllOk l
theorem AllOk.all : ∀ {l : List Con}, AllOk l → ∀ c ∈ l, ConOk Tryz.prog c
  | _ :: _, ⟨h, _⟩, _, .head _ => h
  | _ :: _, ⟨_, h⟩, _, .tail _ hm => h.all _ hm
/-- A function's contract, by its walk. -/
theorem walked {C : Ctx} {fn : Func} {id : FuncId} {sg : List Shp} {rs : Rs} {f : El (sgTy sg) → Option (El rs.ty)} (hT : C.T = tab) (hf : Tryz.prog.funcs[id]? = some fn) (hb : fn.body = some (fn.body.getD .skip)) (hn : (fn.name == "runtime.NumGoroutine") = false) (hS : C.S = []) (hG : AllOk C.G)
    (h : ∀ x y, f x = some y → ∃ n, call C fn (fn.body.getD .skip) sg rs n x = some y) : ConOk Tryz.prog ⟨id, sg, rs, f⟩ :=
  con_ok (by rw [hT]; exact tabOk) ⟨hG.all, fun c hc => by rw [hS] at hc; cases hc⟩ mixed hf hb hn h
end Go.Proofs.YtkaihbkfobiejaaGreatDoor.Xe
