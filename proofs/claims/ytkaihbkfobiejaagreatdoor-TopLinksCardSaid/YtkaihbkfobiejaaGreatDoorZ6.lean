import Derived.Test.YtkaihbkfobiejaaGreatDoorZ5
import Derived.Test.YtkaihbkfobiejaaGreatDoorProg
import Derived.KernelRfl
import Derived.OpenShut
import Derived.SizedLaws
import Derived.Deep.Slices
namespace Go.Proofs.YtkaihbkfobiejaaGreatDoor.Xe
open Go Go.RowKit
set_option linter.unusedVariables false
set_option linter.unusedSimpArgs false
variable {P : Program} {R : Type} {w0 : World} {σ0 : Nat → Nat → Prop} {r : R} {C : Ctx} {ρ : Env} {σ : Nat → Nat → Prop} {w : World}
theorem ownsOf_spec (al : List Bool) : ∀ (l : List AV) (acc : List Nat), acc.Nodup → (∀ i ∈ acc, al[i]? = some true) → (ownsOf al l acc).Nodup ∧ (∀ i ∈ ownsOf al l acc, al[i]? = some true)
 | [], acc, h1, h2 => ⟨h1, h2⟩
 | .sl (some i) t x :: l, acc, h1, h2 => by
  simp only [ownsOf]
  split
  ·rename_i hc
   simp only [Bool.and_eq_true, Bool.not_eq_true', List.contains_eq_mem, decide_eq_false_iff_not] at hc
   refine ownsOf_spec al l _ ?_ ?_
   ·rw [List.nodup_append]
    refine ⟨h1, by simp, fun a ha b hb => ?_⟩
    simp at hb; subst hb
    exact fun e => hc.2 (by rw [← e]; exact ha)
   ·intro j hj
    rcases List.mem_append.1 hj with hj | hj
    ·exact h2 j hj
    ·simp at hj; subst hj
     have := hc.1
     rw [List.getD_eq_getElem?_getD] at this
     cases hx : al[j]? with
     | none => rw [hx] at this; cases this
     | some b => rw [hx] at this; simp at this; rw [this]
  ·exact ownsOf_spec al l acc h1 h2
 | .sl none t x :: l, acc, h1, h2 => ownsOf_spec al l acc h1 h2
 | .bld (some i) T x :: l, acc, h1, h2 => by
  simp only [ownsOf]
  split
  ·rename_i hc
   simp only [Bool.and_eq_true, Bool.not_eq_true', List.contains_eq_mem, decide_eq_false_iff_not] at hc
   refine ownsOf_spec al l _ ?_ ?_
   ·rw [List.nodup_append]
    refine ⟨h1, by simp, fun a ha b hb => ?_⟩
    simp at hb; subst hb
    exact fun e => hc.2 (by rw [← e]; exact ha)
   ·intro j hj
    rcases List.mem_append.1 hj with hj | hj
    ·exact h2 j hj
    ·simp at hj; subst hj
     have := hc.1
     rw [List.getD_eq_getElem?_getD] at this
     cases hx : al[j]? with
     | none => rw [hx] at this; cases this
     | some b => rw [hx] at this; simp at this; rw [this]
  ·exact ownsOf_spec al l acc h1 h2
 | .bld none T x :: l, acc, h1, h2 => ownsOf_spec al l acc h1 h2
 | .bld0 _ :: l, acc, h1, h2 | .row _ _ :: l, acc, h1, h2 | .ms _ _ _ _ :: l, acc, h1, h2 | .mse _ _ _ :: l, acc, h1, h2 | .emp _ :: l, acc, h1, h2 | .mp _ :: l, acc, h1, h2 | .keys _ _ _ _ :: l, acc, h1, h2 | .itr _ _ :: l, acc, h1, h2 | .int _ _ :: l, acc, h1, h2 | .bool _ _ :: l, acc, h1, h2 | .str _ :: l, acc, h1, h2 | .nilsl :: l, acc, h1, h2 | .ptr _ _ :: l, acc, h1, h2 | .nilp :: l, acc, h1, h2 | .elp _ _ _ :: l, acc, h1, h2 | .fn _ _ :: l, acc, h1, h2 | .agg _ :: l, acc, h1, h2 | .tup _ :: l, acc, h1, h2 | .junk :: l, acc, h1, h2 => ownsOf_spec al l acc h1 h2
def less (ρ : Env) (m : Nat) (ids : List Nat) : Env := ⟨fun b => if b < m then ρ.φ b else none, fun j => (ids[j]?).bind ρ.own, ids.length, ρ.fr⟩
theorem renumLeaf_sound {base m : Nat} {ids : List Nat} {v : AV} {u : Value} (hc : clearLeaf m v = true) (g : RA ρ base σ w v u) : RA (less ρ m ids) base σ w (renumLeaf ids v) u := by
 cases v with
 | sl o t l =>
  cases o with
  | none => exact ⟨g.1, fun i e => by cases e⟩
  | some i =>
   simp only [renumLeaf]
   refine ⟨g.1, fun j e => ?_⟩
   split at e
   ·rename_i hm
    obtain rfl := Option.some.inj e
    have hm' : i ∈ ids := by simpa using hm
    refine ⟨List.idxOf_lt_length_iff.2 hm', fun ow how => (g.2 i rfl).2 ow ?_⟩
    change (ids[ids.idxOf i]?).bind ρ.own = some ow at how
    rw [List.getElem?_eq_getElem (List.idxOf_lt_length_iff.2 hm'), List.getElem_idxOf] at how
    exact how
   ·cases e
 | ptr b i =>
  obtain ⟨β, e1, e2⟩ := g
  refine ⟨β, ?_, e2⟩
  simp only [clearLeaf, decide_eq_true_eq] at hc
  show (if b < m then ρ.φ b else none) = some β
  rw [if_pos hc]; exact e1
 | fn f caps =>
  obtain ⟨vs, e, g⟩ := g
  refine ⟨vs, e, ?_⟩
  simp only [clearLeaf, List.all_eq_true] at hc
  refine RAs.mk g.length fun j a v hj hv => ?_
  obtain ⟨v', hv', g'⟩ := g.get hj
  rw [hv'] at hv
  obtain rfl := Option.some.inj hv
  have hc := hc a (List.mem_of_getElem? hj)
  split at hc
  ·rename_i b i
   obtain ⟨β, e1, e2⟩ := g'
   refine ⟨β, ?_, e2⟩
   show (if b < m then ρ.φ b else none) = some β
   rw [if_pos (by simpa using hc)]; exact e1
  ·exact g'
  ·cases hc
 | ms b sz off n =>
  obtain ⟨A, cap, e1, e2, e3⟩ := g
  simp only [clearLeaf, decide_eq_true_eq] at hc
  refine ⟨A, cap, e1, e2, e3.imp id fun ⟨β, o, q1, q2⟩ => ⟨β, o, q1, q2.imp id fun q2 => ⟨?_, q2.2⟩⟩⟩
  show (if b < m then ρ.φ b else none) = some β
  rw [if_pos hc]; exact q2.1
 | mse b sz off =>
  obtain ⟨β, e1, e2⟩ := g
  refine ⟨β, ?_, e2⟩
  simp only [clearLeaf, decide_eq_true_eq] at hc
  show (if b < m then ρ.φ b else none) = some β
  rw [if_pos hc]; exact e1
 | bld i T l => exact g.elim
 | agg cs => cases hc
 | tup cs => cases hc
 | mp b =>
  obtain ⟨β, e1, e2⟩ := g
  refine ⟨β, ?_, e2⟩
  simp only [clearLeaf, decide_eq_true_eq] at hc
  show (if b < m then ρ.φ b else none) = some β
  rw [if_pos hc]; exact e1
 | bool p d => show u = Value.bool (decide (@decide p d = true)); rw [Bool.decide_eq_true]; exact g
 | _ => exact g
theorem Bld.less {P : Program} {base β : Nat} {i : Option Nat} {T : TypeId} {l : List Int} (h : Bld P ρ base σ w β i T l) (m : Nat) (ids : List Nat) : Bld P (less ρ m ids) base σ w β (i.bind fun i => if ids.contains i then some (ids.idxOf i) else none) T l := by
 obtain ⟨p, v, h1, h2, h5, h3⟩ := h
 refine ⟨p, v, h1, h2, h5, fun j ej => ?_⟩
 cases i with
 | none => cases ej
 | some i =>
  simp only [Option.bind_some] at ej
  split at ej
  ·rename_i hm
   obtain rfl := Option.some.inj ej
   have hm' : i ∈ ids := by simpa using hm
   refine ⟨List.idxOf_lt_length_iff.2 hm', fun ow how => (h3 i rfl).2 ow ?_⟩
   change (ids[ids.idxOf i]?).bind ρ.own = some ow at how
   rw [List.getElem?_eq_getElem (List.idxOf_lt_length_iff.2 hm'), List.getElem_idxOf] at how
   exact how
  ·cases ej
theorem renumLeafs_sound {base m : Nat} {ids : List Nat} : ∀ {vs : List AV} {us : List Value}, vs.all (clearLeaf m) = true → RAs ρ base σ w vs us → RAs (less ρ m ids) base σ w (vs.map (renumLeaf ids)) us
 | [], _, _, g => g
 | v :: vs, _, hc, ⟨u, q, e, g, k⟩ => by
  rw [List.all_cons, Bool.and_eq_true] at hc
  exact ⟨u, q, e, renumLeaf_sound hc.1 g, renumLeafs_sound hc.2 k⟩
theorem renum_sound {base m : Nat} {ids : List Nat} {v : AV} {u : Value} (hc : AV.clear m v = true) (g : RA ρ base σ w v u) : RA (less ρ m ids) base σ w (renum ids v) u := by
 cases v with
 | agg cs => obtain ⟨vs, e, g⟩ := g; exact ⟨vs, e, renumLeafs_sound hc g⟩
 | tup cs =>
  obtain ⟨vs, e, g⟩ := g
  simp only [AV.clear, List.isEmpty_iff] at hc
  subst hc
  exact ⟨vs, e, g⟩
 | int k n => exact renumLeaf_sound (v := .int k n) hc g
 | bool p d => exact renumLeaf_sound (v := .bool p d) hc g
 | str s => exact renumLeaf_sound (v := .str s) hc g
 | sl o t l => exact renumLeaf_sound (v := .sl o t l) hc g
 | mp b => exact renumLeaf_sound (v := .mp b) hc g
 | keys k e t l => exact g.elim
 | itr s p => exact g.elim
 | row t l => exact g.elim
 | bld i T l => exact g.elim
 | bld0 e => exact g.elim
 | ms b sz off n => exact renumLeaf_sound (v := .ms b sz off n) hc g
 | mse b sz off => exact renumLeaf_sound (v := .mse b sz off) hc g
 | emp t => exact renumLeaf_sound (v := .emp t) hc g
 | nilsl  => exact renumLeaf_sound (v := .nilsl ) hc g
 | ptr b i => exact renumLeaf_sound (v := .ptr b i) hc g
 | nilp  => exact renumLeaf_sound (v := .nilp ) hc g
 | elp t x i => exact renumLeaf_sound (v := .elp t x i) hc g
 | fn f c => exact renumLeaf_sound (v := .fn f c) hc g
 | junk  => exact renumLeaf_sound (v := .junk ) hc g
theorem keepOnly_get (lv : List Nat) : ∀ (l : List AV) (k i : Nat), (keepOnly lv k l).length = l.length ∧ ((keepOnly lv k l)[i]? = l[i]? ∨ (keepOnly lv k l)[i]? = some .junk ∧ i < l.length)
 | [], k, i => ⟨rfl, .inl rfl⟩
 | v :: l, k, i => by
  refine ⟨by simp [keepOnly, (keepOnly_get lv l (k + 1) 0).1], ?_⟩
  cases i with
  | zero =>
   simp only [keepOnly]
   split
   ·exact .inl rfl
   ·exact .inr ⟨rfl, by simp⟩
  | succ i =>
   have := (keepOnly_get lv l (k + 1) i).2
   simp only [keepOnly, List.getElem?_cons_succ, List.length_cons]
   exact this.imp id fun h => ⟨h.1, by omega⟩
theorem forget_sound {lv : List Nat} {m : Nat} {s s' : St} {a : Act} (hf : forget lv m s = some s') (h : Rel P w0 σ0 ρ σ s a w) (hp : ∀ b β, ρ.fr.pin b = some β → b < m) : ∃ ρ', ρ'.fr = ρ.fr ∧ Rel P w0 σ0 ρ' σ s' a w := by
 unfold forget at hf
 dsimp only at hf
 split at hf
 ·rename_i hc
  rw [Bool.and_eq_true] at hc
  obtain rfl := Option.some.inj hf
  generalize hids : ownsOf s.alive ((s.boxes.take m).flatten ++ (keepOnly lv 0 s.tmps).flatMap AV.cells) [] = ids
  obtain ⟨hn, ha⟩ := ownsOf_spec s.alive ((s.boxes.take m).flatten ++ (keepOnly lv 0 s.tmps).flatMap AV.cells) [] List.nodup_nil (fun i hi => by cases hi)
  rw [hids] at hn ha
  refine ⟨less ρ m ids, rfl, ⟨RAs.mk ?_ fun i b v hx hv => ?_, ?_⟩⟩
  ·rw [List.length_map, (keepOnly_get lv s.tmps 0 0).1]; exact h.tmps.length
  ·rw [List.getElem?_map] at hx
   obtain ⟨b0, hb0, rfl⟩ := Option.map_eq_some_iff.1 hx
   have hcl := List.all_eq_true.1 hc.1 b0 (List.mem_of_getElem? hb0)
   refine renum_sound hcl ?_
   rcases (keepOnly_get lv s.tmps 0 i).2 with e | ⟨e, _⟩
   ·rw [e] at hb0
    obtain ⟨v', hv', g⟩ := h.tmps.get hb0
    rw [hv'] at hv
    obtain rfl := Option.some.inj hv
    exact g
   ·rw [e] at hb0
    obtain rfl := Option.some.inj hb0
    trivial
  ·refine ⟨h.heap.below, h.heap.fits, h.heap.sub, h.heap.old, fun b cs hb => ?_, fun b β hb => ?_, fun b b' β hb hb' => ?_, fun i β hi => ?_, fun i j β hi hj => ?_, fun i ow hi => ?_, by simp [less], fun i hi => ?_, h.heap.frz, fun b β hb => ?_, fun i β hi => ?_, fun b β hb => ?_⟩
   ·rw [List.getElem?_map] at hb
    obtain ⟨c0, hc0, rfl⟩ := Option.map_eq_some_iff.1 hb
    have hcl := List.all_eq_true.1 hc.2 c0 (List.mem_of_getElem? hc0)
    rw [List.getElem?_take] at hc0
    split at hc0
    ·rename_i hbm
     obtain ⟨β, h1, h2⟩ := h.heap.box b c0 hc0
     refine ⟨β, by show (if b < m then _ else _) = _; rw [if_pos hbm]; exact h1, ?_⟩
     cases h2 with
     | cells vs e h2 h3 => exact .cells vs e h2 (renumLeafs_sound hcl h3)
     | map k e u l h2 h3 => exact .map k e u l (by rw [h2]; rfl) h3
     | iter z p h2 h3 => exact .iter z p (by rw [h2]; rfl) h3
     | rows u l vs e h2 h3 h4 => exact .rows u l vs e (by rw [h2]; rfl) h3 h4
     | build i T l h2 h3 => exact .build _ T l (by rw [h2]; cases i <;> rfl) (h3.less m ids)
     | fresh e h2 h3 => exact .fresh e (by rw [h2]; rfl) h3
    ·cases hc0
   ·change (if b < m then ρ.φ b else none) = some β at hb
    split at hb
    ·rename_i hbm
     obtain ⟨h1, h2, h3, h4⟩ := h.heap.phi b β hb
     refine ⟨?_, h2, h3, h4⟩
     have h1 : (s.boxes[b]?).isSome = true := h1
     rw [List.getElem?_map, List.getElem?_take, if_pos hbm]
     simpa using h1
    ·cases hb
   ·change (if b < m then ρ.φ b else none) = some β at hb
    change (if b' < m then ρ.φ b' else none) = some β at hb'
    split at hb
    ·split at hb'
     ·exact h.heap.inj b b' β hb hb'
     ·cases hb'
    ·cases hb
   ·change (ids[i]?).bind ρ.own = some (some β) at hi
    obtain ⟨k, _, hk⟩ := Option.bind_eq_some_iff.1 hi
    obtain ⟨h1, h2, h3⟩ := h.heap.own k β hk
    refine ⟨h1, h2, fun b hb => ?_⟩
    change (if b < m then ρ.φ b else none) = some β at hb
    split at hb
    ·exact h3 b hb
    ·cases hb
   ·change (ids[i]?).bind ρ.own = some (some β) at hi
    change (ids[j]?).bind ρ.own = some (some β) at hj
    obtain ⟨k, hk1, hk⟩ := Option.bind_eq_some_iff.1 hi
    obtain ⟨k', hk2, hk'⟩ := Option.bind_eq_some_iff.1 hj
    have := h.heap.ownj k k' β hk hk'
    subst this
    obtain ⟨hi1, hi2⟩ := List.getElem?_eq_some_iff.1 hk1
    obtain ⟨hj1, hj2⟩ := List.getElem?_eq_some_iff.1 hk2
    exact (List.getElem_inj hn).1 (hi2.trans hj2.symm)
   ·change (ids[i]?).bind ρ.own = some ow at hi
    obtain ⟨k, hk1, hk⟩ := Option.bind_eq_some_iff.1 hi
    rw [List.length_map]; exact (List.getElem?_eq_some_iff.1 hk1).1
   ·rw [List.getElem?_map] at hi
    obtain ⟨k, hk, _⟩ := Option.map_eq_some_iff.1 hi
    obtain ⟨ow, how⟩ := h.heap.alive k (ha k (List.mem_of_getElem? hk))
    exact ⟨ow, by show (ids[i]?).bind ρ.own = _; rw [hk]; exact how⟩
   ·change (if b < m then ρ.φ b else none) = some β at hb
    split at hb
    ·exact h.heap.frφ b β hb
    ·cases hb
   ·change (ids[i]?).bind ρ.own = some (some β) at hi
    obtain ⟨k, _, hk⟩ := Option.bind_eq_some_iff.1 hi
    exact h.heap.fro k β hk
   ·show (if b < m then ρ.φ b else none) = some β
    rw [if_pos (hp b β hb)]; exact h.heap.pin b β hb
 ·cases hf
theorem HR.nilOwn {bx al} (h : HR P w0 σ0 ρ σ bx al w) :
  Mono ρ σ w { ρ with own := fun k => if k = al.length then some none else ρ.own k, no := al.length + 1 } σ w ∧ HR P w0 σ0 { ρ with own := fun k => if k = al.length then some none else ρ.own k, no := al.length + 1 } σ bx (al ++ [true]) w := by
 have hno := h.no
 let ρ' : Env := { ρ with own := fun k => if k = al.length then some none else ρ.own k, no := al.length + 1 }
 have ho : ∀ k, ρ'.own k = if k = al.length then some none else ρ.own k := fun _ => rfl
 have hm : Mono ρ σ w ρ' σ w := ⟨.refl, fun _ _ x => x, by show ρ.no ≤ al.length + 1; omega, fun k ow' hk x => by
  rw [ho, if_neg (by omega)] at x
  exact ⟨x, fun β _ => ⟨fun _ hs => hs, fun _ _ _ hc => hc⟩⟩, rfl⟩
 refine ⟨hm, ⟨h.below, h.fits, h.sub, h.old, fun b cs x => ?_, h.phi, h.inj, fun i β x => ?_, fun i j β x y => ?_, fun i ow' x => ?_, ?_, fun i x => ?_, h.frz, h.frφ, fun i β x => ?_, h.pin⟩⟩
 ·obtain ⟨β, h1, h2⟩ := h.box b cs x
  exact ⟨β, h1, h2.mono hm rfl⟩
 ·change ρ'.own i = _ at x
  rw [ho] at x
  split at x
  ·cases x
  ·exact h.own i β x
 ·change ρ'.own i = _ at x
  change ρ'.own j = _ at y
  rw [ho] at x y
  split at x
  ·cases x
  ·split at y
   ·cases y
   ·exact h.ownj i j β x y
 ·change ρ'.own i = _ at x
  rw [ho] at x
  rw [List.length_append, List.length_singleton]
  split at x
  ·omega
  ·have := h.lim i ow' x; omega
 ·show al.length + 1 = _
  rw [List.length_append, List.length_singleton]
 ·show ∃ ow, ρ'.own i = some ow
  rw [ho]
  split
  ·exact ⟨_, rfl⟩
  ·rename_i hne
   rw [List.getElem?_append] at x
   split at x
   ·exact h.alive i x
   ·rename_i hge
    have : i - al.length ≠ 0 := by omega
    obtain ⟨m, hm'⟩ : ∃ m, i - al.length = m + 1 := ⟨i - al.length - 1, by omega⟩
    rw [hm'] at x
    simp at x
 ·change ρ'.own i = _ at x
  rw [ho] at x
  split at x
  ·cases x
  ·exact h.fro i β x
theorem set_self' {α : Type} {l : List α} {i : Nat} {v : α} (h : l[i]? = some v) : l.set i v = l := by
 apply List.ext_getElem?
 intro j
 rw [List.getElem?_set]
 by_cases hj : i = j
 ·subst hj; rw [if_pos rfl, if_pos (List.getElem?_eq_some_iff.1 h).1, h]
 ·rw [if_neg hj]
theorem RA.nilOwn {base : Nat} {n m : Nat} {own : Nat → Option (Option Nat)} {φ : Nat → Option Nat} {fr : Frz} {t : Ty} {v : Value} (hn : n < m) (ho : own n = some none) (g : RA ρ base σ w .nilsl v) : RA ⟨φ, own, m, fr⟩ base σ w (.sl (some n) t []) v := by
 obtain rfl : v = .slice none 0 0 := g
 refine ⟨⟨none, 0, rfl, Nat.le_refl _, .inl rfl⟩, fun i e => ?_⟩
 obtain rfl := Option.some.inj e
 refine ⟨hn, fun ow how => ?_⟩
 have how : own n = some ow := how
 rw [ho] at how
 obtain rfl := Option.some.inj how
 exact ⟨rfl, 0, [], World.ownsRow_nil w base 0 t.sz, rfl, fun β e => by cases e⟩
theorem nilTmp_sound {s : St} {a : Act} {q : Nat × Ty} (h : Rel P w0 σ0 ρ σ s a w) : ∃ ρ', Mono ρ σ w ρ' σ w ∧ Rel P w0 σ0 ρ' σ (nilTmp s q) a w := by
 unfold nilTmp
 split
 ·rename_i hq
  obtain ⟨m1, m2⟩ := h.heap.nilOwn
  refine ⟨_, m1, ⟨?_, m2⟩⟩
  obtain ⟨v, hv, g⟩ := h.tmps.get hq
  have := RAs.set (RAs.mono m1 _ h.tmps) q.1 (RA.nilOwn (t := q.2) (φ := ρ.φ) (fr := ρ.fr) (own := fun k => if k = s.alive.length then some none else ρ.own k) (n := s.alive.length) (m := s.alive.length + 1) (by omega) (by simp) g)
  rw [set_self' hv] at this
  exact this
 ·exact ⟨ρ, .refl, h⟩
theorem nilBox_sound {s : St} {a : Act} {q : Nat × Ty} (h : Rel P w0 σ0 ρ σ s a w) : ∃ ρ', Mono ρ σ w ρ' σ w ∧ Rel P w0 σ0 ρ' σ (nilBox s q) a w := by
 unfold nilBox
 split
 ·rename_i cs hb
  split
  ·rename_i hc
   split
   ·rename_i hp
    obtain ⟨m1, m2⟩ := h.heap.nilOwn
    refine ⟨_, m1, ⟨RAs.mono m1 _ h.tmps, ?_⟩⟩
    obtain ⟨β, h1, h2⟩ := h.heap.box _ _ hb
    obtain ⟨vs, e, h3, h4⟩ := h2.plain hp
    obtain ⟨v, hv, g⟩ := h4.get hc
    have hset := RAs.set (RAs.mono m1 _ h4) (q.1 % 1000) (RA.nilOwn (t := q.2) (φ := ρ.φ) (fr := ρ.fr) (own := fun k => if k = s.alive.length then some none else ρ.own k) (n := s.alive.length) (m := s.alive.length + 1) (by omega) (by simp) g)
    rw [set_self' hv] at hset
    have hb' : q.1 / 1000 < s.boxes.length := (List.getElem?_eq_some_iff.1 hb).1
    refine { m2 with box := fun b cs' x => ?_, phi := fun b γ x => ?_ }
    ·rw [← boxes_set _ hb'] at x
     split at x
     ·rename_i hbb
      obtain rfl := Option.some.inj x
      exact ⟨β, by rw [hbb]; exact h1, .cells vs e h3 hset⟩
     ·exact m2.box b cs' x
    ·obtain ⟨k1, k2⟩ := m2.phi b γ x
     refine ⟨?_, k2⟩
     rw [← boxes_set _ hb']
     split
     ·rfl
     ·exact k1
   ·exact ⟨ρ, .refl, h⟩
  ·exact ⟨ρ, .refl, h⟩
 ·exact ⟨ρ, .refl, h⟩
theorem lift0_sound {s : St} {a : Act} {id : Nat} (h : Rel P w0 σ0 ρ σ s a w) : ∃ ρ', Mono ρ σ w ρ' σ w ∧ Rel P w0 σ0 ρ' σ (lift0 C id s) a w := by
 have key : ∀ (f : St → Nat × Ty → St), (∀ {s : St} {a : Act} {q : Nat × Ty} {ρ : Env}, Rel P w0 σ0 ρ σ s a w → ∃ ρ', Mono ρ σ w ρ' σ w ∧ Rel P w0 σ0 ρ' σ (f s q) a w) →
   ∀ (l : List (Nat × Ty)) {s : St} {ρ : Env}, Rel P w0 σ0 ρ σ s a w → ∃ ρ', Mono ρ σ w ρ' σ w ∧ Rel P w0 σ0 ρ' σ (l.foldl f s) a w := by
  intro f hf l
  induction l with
  | nil => exact fun h => ⟨_, .refl, h⟩
  | cons q l ih =>
   intro s ρ h
   obtain ⟨ρ1, m1, h1⟩ := hf (q := q) h
   obtain ⟨ρ2, m2, h2⟩ := ih h1
   exact ⟨ρ2, m1.trans m2, h2⟩
 unfold lift0
 obtain ⟨ρ1, m1, h1⟩ := key nilTmp nilTmp_sound _ h
 obtain ⟨ρ2, m2, h2⟩ := key nilBox nilBox_sound _ h1
 exact ⟨ρ2, m1.trans m2, h2⟩
variable {P : Program} {R : Type} {w0 : World} {σ0 : Nat → Nat → Prop} {r : R} {C : Ctx} {ρ : Env} {σ : Nat → Nat → Prop} {w : World}
def Good (P : Program) (w0 : World) (σ0 : Nat → Nat → Prop) (N : Nat) (fin : St → Option R) (r : R) (todo : List Item) (s : St) : Prop :=
 ∀ (ρ : Env) (σ : Nat → Nat → Prop) (a : Act) (w : World) (b : Frame) (cs : List Frame), (∀ x β, ρ.fr.pin x = some β → x < N) → Rel P w0 σ0 ρ σ s a w → a.defers = [] →
  ∃ a' w' todo' s' ρ' σ', Steps P (lone (b.at a todo) cs w) (lone { b.at a' todo' with mode := .returning } cs w') ∧ a'.defers = [] ∧ Rel P w0 σ0 ρ' σ' s' a' w' ∧ fin s' = some r ∧ Keeps σ σ' w w' ∧ ρ'.fr = ρ.fr
theorem Good.step {N : Nat} {fin : St → Option R} {todo todo' : List Item} {s : St} (h : Good P w0 σ0 N fin r todo' s) (hs : ∀ (a : Act) (w : World) (b : Frame) (cs : List Frame), Go.step P (lone (b.at a todo) cs w) = .next (lone (b.at a todo') cs w)) : Good P w0 σ0 N fin r todo s :=
 fun ρ σ a w b cs hp hr hd => by
  obtain ⟨a', w', todo2, s', ρ', σ', h1, h2⟩ := h ρ σ a w b cs hp hr hd
  exact ⟨a', w', todo2, s', ρ', σ', .head (hs a w b cs) h1, h2⟩
theorem Good.ends {N : Nat} {fin : St → Option R} {todo : List Item} {s : St} (h : fin s = some r) (hs : ∀ (a : Act) (w : World) (b : Frame) (cs : List Frame), Go.step P (lone (b.at a todo) cs w) = .next (lone { b.at a todo with mode := .returning } cs w)) : Good P w0 σ0 N fin r todo s :=
 fun ρ σ a w b cs hp hr hd => ⟨a, w, todo, s, ρ, σ, .one (hs a w b cs), hd, hr, h, .refl, rfl⟩
theorem step_inScope {b : Frame} {a : Act} {k : List Item} {cs : List Frame} {w : World} {c : Code} : Go.step P (lone (b.at a (.inScope c :: k)) cs w) = .next (lone (b.at a k) cs w) :=
 step_lone_go (by simp [stepG, stepG.exec, Frame.at])
theorem step_scope {b : Frame} {a : Act} {k : List Item} {cs : List Frame} {w : World} {c : Code} : Go.step P (lone (b.at a (.code (.scope c) :: k)) cs w) = .next (lone (b.at a (.code c :: .inScope c :: k)) cs w) :=
 step_lone_go (by simp [stepG, stepG.exec, Frame.at])
theorem step_sound (hT : TabOk P C.T) (hG : CtxOk P C) (hm : P.follows .mixedOrders = true) {rec : List Item → St → Option R} {fin : St → Option R}
  (hrec : ∀ todo s, rec todo s = some r → ∀ b k, todo = .inLoop b :: k → Good P w0 σ0 (keepOf C) fin r (.code b :: .inLoop b :: k) s) : ∀ (m : Nat) {todo : List Item} {s : St}, step C rec fin m todo s = some r → Good P w0 σ0 (keepOf C) fin r todo s
 | 0, _, _, h => by simp [step] at h
 | m + 1, todo, s, h => by
  have ih := @step_sound hT hG hm rec fin hrec m
  unfold step at h
  split at h
  ·exact Good.ends h fun a w b cs => step_end
  ·rename_i c k
   split at h
   ·exact (ih h).step fun a w b cs => step_skip
   ·exact (ih h).step fun a w b cs => step_label
   ·exact (ih h).step fun a w b cs => step_seq
   ·rename_i c x y
    have key : ∀ {p : Prop} {d : Decidable p} {s1 : St} {z : Code}, ev s c = .bool p d → (∀ ρ σ a w, Rel P w0 σ0 ρ σ s a w → Rel P w0 σ0 ρ σ s1 a w) → z = (if @decide p d = true then x else y) → Good P w0 σ0 (keepOf C) fin r (.code z :: k) s1 → Good P w0 σ0 (keepOf C) fin r (.code (.cond c x y) :: k) s := by
     intro p d s1 z hc hrel hz hg ρ σ a w b cs hp hr hd
     have g := ev_sound hr.tmps c
     rw [hc] at g
     have g : a.eval c = .bool (@decide p d) := g
     obtain ⟨a', w', todo2, s', ρ', σ', h1, h2⟩ := hg ρ σ a w b cs hp (hrel _ _ _ _ hr) hd
     refine ⟨a', w', todo2, s', ρ', σ', .head (step_cond g) ?_, h2⟩
     rw [hz] at h1
     exact h1
    split at h
    ·rename_i t p d hc
     have hc' : s.tmps.getD t .junk = .bool p d := hc
     have rel : ∀ {q : Prop} {dq : Decidable q}, Eqv (.bool p d) (.bool q dq) → ∀ ρ σ a w, Rel P w0 σ0 ρ σ s a w → Rel P w0 σ0 ρ σ (s.put (some t) (.bool q dq)) a w := fun he ρ σ a w hr => hr.refine fun v hv => by
      have g := hr.tmps.getD t
      rw [hc', List.getD_eq_getElem?_getD, hv] at g
      exact (he _ _ _ _ _).1 g
     split at h
     ·rename_i hp
      exact key (z := x) hc (rel (eqv_true hp)) (by rw [if_pos (decide_eq_true hp)]) (ih h)
     ·rename_i hp
      exact key (z := y) hc (rel (eqv_false hp)) (by rw [if_neg (by simp [hp])]) (ih h)
    ·rename_i p d hc
     split at h
     ·rename_i hp
      exact key (z := x) hc (fun _ _ _ _ hr => hr) (by rw [if_pos (decide_eq_true hp)]) (ih h)
     ·rename_i hp
      exact key (z := y) hc (fun _ _ _ _ hr => hr) (by rw [if_neg (by simp [hp])]) (ih h)
    ·cases h
   ·exact (ih h).step fun a w b cs => step_block
   ·rename_i c
    exact (hrec _ _ h c k rfl).step fun a w b cs => step_loop
   ·exact (ih h).step fun a w b cs => step_scope
   ·split at h
    ·rename_i k' hk; exact (ih h).step fun a w b cs => step_exit hk
    ·cases h
   ·split at h
    ·rename_i k' hk; exact (ih h).step fun a w b cs => step_goto hk
    ·cases h
   ·exact Good.ends h fun a w b cs => step_ret
   ·rename_i id ops dr
    intro ρ σ a w b cs hp hr hd
    obtain ⟨e, a1, w1, hq, harr⟩ := xregion_sound hT hG hm h hr b k cs
    cases e with
    | normal =>
     obtain ⟨s1, ρ1, σ1, e1, e2, e3, e4⟩ := hq
     obtain ⟨a', w', todo2, s', ρ', σ', h1, h2, h3, h4, h5, h6⟩ := ih e1 ρ1 σ1 a1 w1 b cs (by rw [e3.fr]; exact hp) e4 (by rw [e2]; exact hd)
     exact ⟨a', w', todo2, s', ρ', σ', Steps.trans harr h1, h2, h3, h4, e3.toKeeps.trans h5, h6.trans e3.fr⟩
    | _ => exact hq.elim
   ·cases h
  ·exact (ih h).step fun a w b cs => step_inBlock
  ·exact (ih h).step fun a w b cs => step_inScope
  ·rename_i b k
   exact (hrec _ _ h b k rfl).step fun a w b cs => step_inLoop
  ·cases h
theorem atLoop_sound {K : St → Option R} {todo : List Item} {s : St} {b : Code} {k : List Item} (e : todo = .inLoop b :: k) (h : atLoop C todo s K = some r) {fin : St → Option R}
  (hk : ∀ s', K s' = some r → Good P w0 σ0 (keepOf C) fin r (.code b :: .inLoop b :: k) s') : Good P w0 σ0 (keepOf C) fin r (.code b :: .inLoop b :: k) s := by
 subst e
 simp only [atLoop] at h
 split at h
 ·split at h
  ·split at h
   ·rename_i s' hf
    intro ρ σ a w b' cs hp hr hd
    obtain ⟨ρ1, hm1, hr1⟩ := lift0_sound hr
    obtain ⟨ρ', he, hr'⟩ := forget_sound hf hr1 (fun x β hx => Nat.lt_of_lt_of_le (hp x β (by rw [← hm1.fr]; exact hx)) (Nat.le_max_right _ _))
    obtain ⟨a', w', todo2, s', ρ2, σ', h1, h2, h3, h4, h5, h6⟩ := hk s' h ρ' σ a w b' cs (by rw [he, hm1.fr]; exact hp) hr' hd
    exact ⟨a', w', todo2, s', ρ2, σ', h1, h2, h3, h4, h5, h6.trans (he.trans hm1.fr)⟩
   ·cases h
  ·cases h
 ·cases h
theorem run_sound (hT : TabOk P C.T) (hG : CtxOk P C) (hm : P.follows .mixedOrders = true) {fin : St → Option R} : ∀ (n : Nat) {todo : List Item} {s : St}, run C fin n todo s = some r → ∀ b k, todo = .inLoop b :: k → Good P w0 σ0 (keepOf C) fin r (.code b :: .inLoop b :: k) s
 | 0, _, _, h, _, _, _ => by simp [run] at h
 | n + 1, todo, s, h, b, k, e => by
  subst e
  simp only [run] at h
  exact step_sound hT hG hm (fun todo s hh b k e => atLoop_sound e hh fun s' hs' => run_sound hT hG hm n hs' b k e) steps h
def resSem (ts : Array Value) : ResultVar → Sem Value
 | .tmp t => pure (ts.getD t undef)
 | .cell p t => do loadVar t (← asAddr (ts.getD p undef))
theorem resOf_one (hT : TabOk P C.T) {s : St} {a : Act} (hr : Rel P w0 σ0 ρ σ s a w) {x : ResultVar} {v : AV} (h : resOf C s x = some v) : ∃ u, (resSem a.tmps x).run P w = .ok u w ∧ RA ρ w0.heap.size σ w v u := by
 cases x with
 | tmp t =>
  obtain rfl := Option.some.inj h
  refine ⟨_, rfl, ?_⟩
  rw [getD_list]; exact hr.tmps.getD t
 | cell p t =>
  have h : xload C s t (s.tmps.getD p .junk) some = some v := h
  have g := hr.tmps.getD p
  rw [← getD_list] at g
  obtain ⟨av, u, q1, q2, q3⟩ := load_yields (K := some) (P := P) hT hr.heap (fun b cs _ _ _ hb => hb) h g
  obtain rfl := Option.some.inj q2
  refine ⟨u, ?_, q3⟩
  have hpt : ∃ ad, a.tmps.getD p undef = .pointer (some ad) := by
   unfold xload at h
   split at h
   ·rename_i cs hc
    unfold cellsAt at hc
    split at hc
    ·rename_i hh; rw [hh] at g; obtain ⟨β, _, e⟩ := g; exact ⟨_, e⟩
    ·rename_i hh; rw [hh] at g; obtain ⟨β, _, _, e, _⟩ := g; exact ⟨_, e⟩
    ·cases hc
   ·cases h
  obtain ⟨ad, had⟩ := hpt
  simp only [resSem, had] at q1 ⊢
  simpa [Instr.loadAt, Instr.sureAddr, asAddr] using q1
theorem resOf_sound (hT : TabOk P C.T) {s : St} {a : Act} (hr : Rel P w0 σ0 ρ σ s a w) : ∀ {l : List ResultVar} {vs : List AV}, resAll C s l = some vs → ∃ us : List Value, (l.mapM (resSem a.tmps)).run P w = .ok us w ∧ RAs ρ w0.heap.size σ w vs us
 | [], vs, h => by
  obtain rfl := Option.some.inj h
  exact ⟨[], by simp, rfl⟩
 | x :: l, vs, h => by
  simp only [resAll] at h
  split at h
  ·rename_i v vs' h1 h2
   obtain rfl := Option.some.inj h
   obtain ⟨us, e1, e2⟩ := resOf_sound hT hr h2
   obtain ⟨u, e3, e4⟩ := resOf_one hT hr h1
   refine ⟨u :: us, ?_, u, us, rfl, e4, e2⟩
   rw [List.mapM_cons]
   simp only [Sem.run_bind, e3, Result.andThen_ok, e1, Sem.run_pure]
  ·cases h
theorem results_eq (fn : Func) (ts : Array Value) : results fn ts = (do
  let us ← fn.results.toList.mapM (resSem ts)
  pure (if h : us.toArray.size = 1 then us.toArray[0] else .tuple us.toArray)) := by
 unfold results
 rw [Array.mapM_eq_mapM_toList, map_eq_pure_bind, bind_assoc]
 simp only [pure_bind]
 congr 1
theorem thawLeaf_sound {s : St} (h : HR P w0 σ0 ρ σ (fun b => s.boxes[b]?) s.alive w) {v : AV} {u : Value} {R : Type} {K : AV → Option R} {r : R} (hk : thawLeaf s v K = some r) (g : RA ρ w0.heap.size σ w v u) : ∃ v', K v' = some r ∧ RA ρ w0.heap.size (Still ρ σ) w v' u := by
 unfold thawLeaf at hk
 split at hk
 ·rename_i b sz n
  split at hk
  ·rename_i t l hr
   split at hk
   ·rename_i hs
    obtain ⟨z, hz, hk⟩ := Option.bind_eq_some_iff.1 hk
    unfold lpart at hz
    split at hz
    ·rename_i hle
     obtain rfl := Option.some.inj hz
     refine ⟨_, hk, ?_, fun i e => by cases e⟩
     obtain ⟨A, cap, e1, e2, e3⟩ := g
     obtain ⟨β, q1, q2⟩ := h.box b _ (rowOf_some hr)
     obtain ⟨us, e', q3, q4⟩ := q2.row
     have hln : ((l.drop 0).take n).length = n := by rw [List.length_take, List.length_drop]; omega
     refine ⟨A, cap, by rw [hln, e1], by rw [hln]; exact e2, ?_⟩
     rcases e3 with ⟨rfl, hn⟩ | ⟨β', o, rfl, e3⟩
     ·exact .inl (List.eq_nil_of_length_eq_zero (by rw [hln, hn]))
     ·by_cases hn : n = 0
      ·exact .inl (List.eq_nil_of_length_eq_zero (by rw [hln, hn]))
      ·right
       obtain ⟨q5, q6⟩ := e3.resolve_left hn
       rw [q1] at q5
       obtain rfl := Option.some.inj q5
       rw [Nat.zero_mul] at q6
       subst q6
       refine ⟨β, 0, us.toList.take (n * t.sz), rfl, ?_, fun j v hv => ⟨.inr ⟨b, q1⟩, ?_⟩⟩
       ·rw [List.drop_zero]
        exact RLs.mono (fun _ _ => RE.mono h.still.1.toKeeps) (q4.take' n)
       ·rw [List.getElem?_take] at hv
        split at hv
        ·rw [Nat.zero_add, cell_of_row w β j us e' (0, 0) q3, ← Array.getElem?_toList]; exact hv
        ·cases hv
    ·cases hz
   ·cases hk
  ·cases hk
 ·exact ⟨v, hk, RA.mono h.still.1 _ g⟩
theorem thawLeaves_sound {s : St} (h : HR P w0 σ0 ρ σ (fun b => s.boxes[b]?) s.alive w) {R : Type} {r : R} : ∀ {vs : List AV} {us : List Value} {K : List AV → Option R}, thawLeaves s vs K = some r → RAs ρ w0.heap.size σ w vs us → ∃ vs', K vs' = some r ∧ RAs ρ w0.heap.size (Still ρ σ) w vs' us
 | [], us, K, hk, g => ⟨[], hk, g⟩
 | v :: vs, us, K, hk, ⟨u, q, e, g, k⟩ => by
  obtain ⟨v', h1, h2⟩ := thawLeaf_sound h hk g
  obtain ⟨vs', h3, h4⟩ := thawLeaves_sound h h1 k
  exact ⟨v' :: vs', h3, u, q, e, h2, h4⟩
theorem thaw_sound {s : St} (h : HR P w0 σ0 ρ σ (fun b => s.boxes[b]?) s.alive w) {v : AV} {u : Value} {R : Type} {K : AV → Option R} {r : R} (hk : thaw s v K = some r) (g : RA ρ w0.heap.size σ w v u) : ∃ v', K v' = some r ∧ RA ρ w0.heap.size (Still ρ σ) w v' u := by
 unfold thaw at hk
 split at hk
 ·obtain ⟨us, e, g⟩ := g
  obtain ⟨vs', h1, h2⟩ := thawLeaves_sound h hk g
  exact ⟨_, h1, us, e, h2⟩
 ·exact thawLeaf_sound h hk g
theorem thaws_sound {s : St} (h : HR P w0 σ0 ρ σ (fun b => s.boxes[b]?) s.alive w) {R : Type} {r : R} : ∀ {vs : List AV} {us : List Value} {K : List AV → Option R}, thaws s vs K = some r → RAs ρ w0.heap.size σ w vs us → ∃ vs', K vs' = some r ∧ RAs ρ w0.heap.size (Still ρ σ) w vs' us
 | [], us, K, hk, g => ⟨[], hk, g⟩
 | v :: vs, us, K, hk, ⟨u, q, e, g, k⟩ => by
  obtain ⟨v', h1, h2⟩ := thaw_sound h hk g
  obtain ⟨vs', h3, h4⟩ := thaws_sound h h1 k
  exact ⟨v' :: vs', h3, u, q, e, h2, h4⟩
theorem results_sound (hT : TabOk P C.T) {fn : Func} {rs : Rs} {s : St} {a : Act} {x : El rs.ty} (hr : Rel P w0 σ0 ρ σ s a w) (h : finOf C fn rs s = some x) : ∃ v, (results fn a.tmps).run P w = .ok v w ∧ RR (Still ρ σ) w rs x v := by
 unfold finOf at h
 have key : ∀ {vs : List AV}, resAll C s fn.results.toList = some vs → ∃ us : List Value, RAs ρ w0.heap.size σ w vs us ∧ (results fn a.tmps).run P w = .ok (if h : us.toArray.size = 1 then us.toArray[0] else .tuple us.toArray) w := by
  intro vs hv
  obtain ⟨us, e1, e2⟩ := resOf_sound hT hr hv
  refine ⟨us, e2, ?_⟩
  rw [results_eq]
  simp only [Sem.run_bind, Sem.run_pure, e1, Result.andThen_ok]
 split at h
 ·rename_i v hv
  obtain ⟨us, e1, e2⟩ := key hv
  obtain ⟨u, q, rfl, g, hq⟩ := e1
  obtain rfl : q = [] := hq
  obtain ⟨v', h1, h2⟩ := thaw_sound hr.heap h g
  exact ⟨u, by rw [e2]; rfl, decR_sound h1 h2⟩
 ·rename_i vs hne hv
  obtain ⟨us, e1, e2⟩ := key hv
  obtain ⟨vs', h1, h2⟩ := thaws_sound hr.heap h e1
  refine ⟨.tuple us.toArray, ?_, decR_sound h1 ⟨us.toArray, rfl, by simpa using h2⟩⟩
  rw [e2, dif_neg]
  intro h1
  have hl := e1.length
  have : vs.length = 1 := by rw [← hl]; simpa using h1
  obtain ⟨y, hy⟩ := List.length_eq_one_iff.1 this
  exact hne y (by rw [← hy])
 ·cases h
theorem call_sound (hT : TabOk P C.T) (hG : CtxOk P C) (hm : P.follows .mixedOrders = true) {f : FuncId} {fn : Func} {c : Code} {sg : List Shp} {rs : Rs} {n : Nat} {x : El (sgTy sg)} {y : El rs.ty} (hf : P.funcs[f]? = some fn) (hb : fn.body = some c)
  (h : call C fn c sg rs n x = some y) {vs : List Value} (hσ : Fits σ0 w0) (hs : RS σ0 w0 sg x vs) :
  Calls P f vs.toArray w0 fun e w' => ∃ v σ', e = .returned v ∧ Grow σ0 w0 σ' w' ∧ RR σ' w' rs y v := by
 intro cs
 have hra := RS.ra (ρ := ⟨fun _ => none, fun _ => none, 0, Frz.no w0⟩) (base := w0.heap.size) hs
 have hl : vs.length = (encs sg x).length := hra.length
 let b : Frame := { (default : Frame) with fn := f, kind := .normal }
 let a0 : Act := { tmps := vs.toArray ++ Array.replicate (fn.ntmps - vs.toArray.size) undef, defers := [] }
 have henter : Frame.enter P f vs.toArray .normal = b.at a0 [.code c] := by
  simp [Frame.enter, Frame.at, hf, hb, b, a0]
 have hrel : Rel P w0 σ0 ⟨fun _ => none, fun _ => none, 0, Frz.no w0⟩ σ0 (enter fn (encs sg x)) a0 w0 := by
  refine ⟨?_, ⟨Below.refl _ _, hσ, fun _ _ h => h, fun _ _ h => .inl h, fun b cs h => by simp [enter] at h, fun b β h => (by cases h), fun b b' β h => (by cases h), fun i β h => (by cases h), fun i j β h => (by cases h), fun i ow h => (by cases h), rfl, fun i h => by simp [enter] at h, fun β h => h.elim, fun b β h => (by cases h), fun i β h => (by cases h), fun b β h => (by cases h)⟩⟩
  show RAs _ _ _ _ (encs sg x ++ List.replicate (fn.ntmps - (encs sg x).length) (.tup [])) (vs.toArray ++ Array.replicate (fn.ntmps - vs.toArray.size) undef).toList
  have hsz : vs.toArray.size = (encs sg x).length := by rw [List.size_toArray, hl]
  rw [Array.toList_append, Array.toList_replicate, hsz]
  refine hra.append (RAs.mk (by simp) fun i a v ha hv => ?_)
  have h1 := List.mem_of_getElem? ha
  have h2 := List.mem_of_getElem? hv
  rw [List.eq_of_mem_replicate h1, List.eq_of_mem_replicate h2]
  exact ⟨#[], rfl, rfl⟩
 obtain ⟨a', w', todo', s', ρ', σ', h1, h2, h3, h4, -⟩ := step_sound (P := P) (w0 := w0) (σ0 := σ0) hT hG hm (fun todo s hh b k e => atLoop_sound e hh fun s' hs' => run_sound hT hG hm n hs' b k e) steps h _ _ a0 w0 b cs (fun _ _ h => by cases h) hrel rfl
 obtain ⟨v, r1, r2⟩ := results_sound hT h3 h4
 refine ⟨.returned v, w', _, ⟨v, _, rfl, ⟨h3.heap.below, fun b o x => .inl (h3.heap.sub b o x), fun b o x => x.elim (h3.heap.old b o) fun ⟨z, hz⟩ => .inr (h3.heap.phi z b hz).2.1, h3.heap.still.2⟩, r2⟩, by rw [henter]; exact h1, rfl, rfl, h2, rfl, fn, hf, r1⟩
theorem con_ok (hT : TabOk P C.T) (hG : CtxOk P C) (hm : P.follows .mixedOrders = true) {c : Con} {fn : Func} {code : Code} (hf : P.funcs[c.id]? = some fn) (hb : fn.body = some code) (hn : (fn.name == "runtime.NumGoroutine") = false)
  (h : ∀ x y, c.f x = some y → ∃ n, call C fn code c.sg c.rs n x = some y) : ConOk P c :=
 ⟨⟨fn, hf, by rw [hb]; rfl, hn⟩, fun x y hxy σ w vs hσ hs => by
  obtain ⟨n, hn⟩ := h x y hxy
  exact call_sound hT hG hm hf hb hn hσ hs⟩
open Go
def loopsIn : List Item → Code → List (List Item)
 | k, .loop b => (.inLoop b :: k) :: loopsIn (.inLoop b :: k) b
 | k, .seq a b => loopsIn (.code b :: k) a ++ loopsIn k b
 | k, .cond _ a b => loopsIn k a ++ loopsIn k b
 | k, .block id b => loopsIn (.inBlock id :: k) b
 | k, .scope b => loopsIn (.inScope b :: k) b
 | _, _ => []
def todoAt (id : Nat) (c : Code) : List Item := ((loopsIn [] c).find? fun t => match t with | .inLoop b :: _ => firstRegion b == some id | _ => false).getD []
theorem tabOk : TabOk Tryz.prog tab := by
 show tab.zipIdx.map (fun q => mkTI Tryz.prog q.2 q.1) = tab
 kernel_rfl
theorem mixed : Tryz.prog.follows .mixedOrders = true := by kernel_rfl
def AllOk : List Con → Prop
 | [] => True
 | c :: l => ConOk Tryz.prog c ∧ AllOk l
theorem AllOk.all : ∀ {l : List Con}, AllOk l → ∀ c ∈ l, ConOk Tryz.prog c
 | _ :: _, ⟨h, _⟩, _, .head _ => h
 | _ :: _, ⟨_, h⟩, _, .tail _ hm => h.all _ hm
theorem walked {C : Ctx} {fn : Func} {id : FuncId} {sg : List Shp} {rs : Rs} {f : El (sgTy sg) → Option (El rs.ty)} (hT : C.T = tab) (hf : Tryz.prog.funcs[id]? = some fn) (hb : fn.body = some (fn.body.getD .skip)) (hn : (fn.name == "runtime.NumGoroutine") = false) (hS : C.S = []) (hG : AllOk C.G)
  (h : ∀ x y, f x = some y → ∃ n, call C fn (fn.body.getD .skip) sg rs n x = some y) : ConOk Tryz.prog ⟨id, sg, rs, f⟩ :=
 con_ok (by rw [hT]; exact tabOk) ⟨hG.all, fun c hc => by rw [hS] at hc; cases hc⟩ mixed hf hb hn h
open Go Go.RowKit Go.ChangeShapes Go.WideShapes
def Ty.low : Ty → Nat
 | .int k => k.bits / 8
 | .bool => 1
 | .str => 16
 | .unit => 0
 | .pair a b => a.low + b.low
 | .sl _ => 24
def Wf : (t : Ty) → El t → Prop
 | .int k, x => (Lit.int k x).wf = true
 | .bool, _ => True
 | .str, s => s.size ≤ 140737488351232
 | .unit, _ => True
 | .pair a b, x => Wf a x.1 ∧ Wf b x.2
 | .sl t, l => l.length ≤ 140737488351232 ∧ l.length * t.low ≤ 140737488351232 ∧ ∀ x ∈ l, Wf t x
def AllOf (w : World) : Nat → Nat → Prop := fun b _ => b < w.heap.size
def Opn (P : Program) (W : World) (t : TypeId) (ty : Ty) : Prop :=
 ∀ (H : Type) (enc : TypeId × Value → H) (base : Nat) (spare : Nat → Bool) (held : Bool) (fuel : Nat) (cs : List Value) (y : DataW H × List MemPlace),
  DataW.trod enc P W base spare held fuel t cs = some y → (∀ m ∈ y.1.weights P t, m ≤ reachBytes) → ∃ x : El ty, RE (AllOf W) W ty x cs ∧ Wf ty x
variable {P : Program} {W : World}
theorem opn_int {t : TypeId} {k : IntKind} (ht : P.underlying t = some (.int k)) : Opn P W t (.int k) := by
 intro H enc base spare held fuel cs y h _
 obtain ⟨n, rfl, -, hw⟩ := DataW.trod_int ht h
 exact ⟨n, rfl, hw⟩
theorem opn_string {t : TypeId} (ht : P.underlying t = some .string) : Opn P W t .str := by
 intro H enc base spare held fuel cs y h hm
 obtain ⟨s, rfl, rfl, -⟩ := DataW.trod_string ht h
 refine ⟨s, rfl, ?_⟩
 have := hm s.data.toList.length (by simp [DataW.weights])
 rw [Array.length_toList] at this
 exact this
theorem weightsAll_mem {H : Type} {e : TypeId} : ∀ {l : List (DataW H)} {d : DataW H} {m : Nat}, d ∈ l → m ∈ d.weights P e → m ∈ DataW.weightsAll P e l
 | x :: l, d, m, hd, hm => by
  rw [DataW.weightsAll, List.mem_append]
  rcases List.mem_cons.1 hd with rfl | hd
  ·exact .inl hm
  ·exact .inr (weightsAll_mem hd hm)
theorem mapM_get {γ δ : Type} {f : γ → Option δ} : ∀ {l : List γ} {r : List δ}, l.mapM f = some r → ∀ (i : Nat) (x : γ), l[i]? = some x → f x = r[i]?
 | [], r, h, i, x, hx => by simp at hx
 | a :: l, r, h, i, x, hx => by
  rw [List.mapM_cons] at h
  obtain ⟨b, hb, h⟩ := Option.bind_eq_some_iff.1 h
  obtain ⟨bs, hbs, h⟩ := Option.bind_eq_some_iff.1 h
  have hr : b :: bs = r := Option.some.inj h
  subst hr
  cases i with
  | zero => simp at hx; subst hx; simpa using hb
  | succ i => simpa using mapM_get hbs i x (by simpa using hx)
theorem cells_cell {w : World} {base : Nat} {a : Addr} {n : Nat} {cs : List Value} (h : w.cells? base a n = some cs) (i : Nat) (u : Value) (hi : i < n) (hu : cs[i]? = some u) : w.cell? (a.add i) = some u := by
 unfold World.cells? at h
 split at h
 ·rw [mapM_get h i i (by simp [hi]), hu]
 ·cases h
theorem cell_spot {w : World} {a : Addr} {v : Value} (h : w.cell? a = some v) : a.spot = none ∧ a.block < w.heap.size := by
 unfold World.cell? at h
 split at h
 ·rename_i c e f hc
  split at h
  ·cases h
  ·rename_i hs
   refine ⟨by cases hsp : a.spot <;> simp_all, ?_⟩
   rcases Nat.lt_or_ge a.block w.heap.size with hh | hh
   ·exact hh
   ·rw [Array.getElem?_eq_none hh] at hc; cases hc
 ·cases h
theorem RLs.mkAt {σ : Nat → Nat → Prop} {t : Ty} {β off : Nat} : ∀ (n : Nat) (p : Nat → El t × List Value), (∀ i, i < n → RE σ W t (p i).1 (p i).2 ∧ ∀ j u, (p i).2[j]? = some u → σ β (off + (i * t.sz + j)) ∧ W.cell? ⟨β, off + (i * t.sz + j), none⟩ = some u) →
  RLs (RE σ W t) ((List.range n).map fun i => (p i).1) ((List.range n).flatMap fun i => (p i).2) ∧ Cs σ W β off ((List.range n).flatMap fun i => (p i).2)
 | 0, p, h => ⟨rfl, fun j v hv => by simp at hv⟩
 | n + 1, p, h => by
  obtain ⟨h1, h2⟩ := RLs.mkAt n p fun i hi => h i (by omega)
  obtain ⟨h3, h4⟩ := h n (by omega)
  have hl : ((List.range n).flatMap fun i => (p i).2).length = n * t.sz := by rw [h1.len]; simp
  rw [List.range_succ, List.map_append, List.flatMap_append]
  refine ⟨h1.append (by simpa using ⟨_, [], (List.append_nil _).symm, h3, rfl⟩), fun j v hv => ?_⟩
  rw [List.getElem?_append] at hv
  split at hv
  ·exact h2 j v hv
  ·rename_i hj
   simp only [List.flatMap_cons, List.flatMap_nil, List.append_nil] at hv
   have := h4 _ _ hv
   rw [hl] at hj this
   rw [show n * t.sz + (j - n * t.sz) = j by omega] at this
   exact this
theorem choose_fun {γ : Type} [Inhabited γ] {n : Nat} {p : Nat → γ → Prop} (h : ∀ i, i < n → ∃ x, p i x) : ∃ f : Nat → γ, ∀ i, i < n → p i (f i) := by
 classical
 exact ⟨fun i => if hi : i < n then Classical.choose (h i hi) else default, fun i hi => by
  show p i (if hi : i < n then Classical.choose (h i hi) else default)
  rw [dif_pos hi]; exact Classical.choose_spec (h i hi)⟩
instance : (t : Ty) → Inhabited (El t)
 | .int _ => ⟨(0 : Int)⟩
 | .bool => ⟨false⟩
 | .str => ⟨ByteArray.empty⟩
 | .unit => ⟨()⟩
 | .pair a b => ⟨((instInhabitedEl a).default, (instInhabitedEl b).default)⟩
 | .sl t => ⟨([] : List (El t))⟩
theorem opn_slice {t e : TypeId} {ty : Ty} (ht : P.underlying t = some (.slice e)) (hc : P.cellsOf e = ty.sz) (hB : 0 < P.bytesOf e ∧ ty.low ≤ P.bytesOf e) (hs0 : 0 < ty.sz) (h : Opn P W e ty) : Opn P W t (.sl ty) := by
 intro H enc base spare held fuel cs y hy hm
 rcases Go.Deep.open_slice ht hy with ⟨rfl, rfl⟩ | ⟨a, len, cap, m, n, D, Pl, rfl, hb, hl, hmx, hmm, rfl, hel⟩
 ·exact ⟨[], ⟨none, 0, rfl, Nat.le_refl _, .inl rfl⟩, by simp, by simp, fun x hx => by cases hx⟩
 ·have hw : ∀ k ∈ (DataW.slice ((List.range len).map D) ((List.range (m - len)).map fun j => D (len + j)) : DataW H).weights P t, k ≤ reachBytes := hm
  have hlm : len ≤ m := by rw [hmm]; split <;> omega
  have key : ∀ i, i < len → ∃ q : El ty × List Value, P.cellsOf e = q.2.length ∧ RE (AllOf W) W ty q.1 q.2 ∧ Wf ty q.1 ∧ ∀ j u, q.2[j]? = some u → W.cell? (a.add (i * ty.sz + j)) = some u := by
   intro i hi
   obtain ⟨cs', h1, h2⟩ := hel i (by omega)
   obtain ⟨x, hK, hQ⟩ := h H enc base spare held n cs' (D i, Pl i) h2 (fun k hk => hw k (by
    rw [DataW.weights, ht]
    simp only [List.mem_cons, List.mem_append]
    exact .inr (.inl (weightsAll_mem (List.mem_map.2 ⟨i, by simp [hi], rfl⟩) hk))))
   have hlen := hK.len
   refine ⟨(x, cs'), by rw [hc, hlen], hK, hQ, fun j u hu => ?_⟩
   have hj : j < P.cellsOf e := by have := (List.getElem?_eq_some_iff.1 hu).1; rw [hc]; simp at this; omega
   have := cells_cell h1 j u hj hu
   rw [Go.Deep.add_add, hc] at this
   exact this
  obtain ⟨f, hf⟩ := choose_fun key
  have hll : ((List.range len).map fun i => (f i).1).length = len := by simp
  refine ⟨(List.range len).map fun i => (f i).1, ⟨some a, cap, by rw [hll], by rw [hll]; exact hl, ?_⟩, ?_, ?_, ?_⟩
  ·by_cases hl0 : len = 0
   ·left; rw [hl0]; rfl
   ·right
    have hspot : a.spot = none ∧ a.block < W.heap.size := by
     obtain ⟨g1, g2, g3, g4⟩ := hf 0 (by omega)
     have hlen : (f 0).2.length = ty.sz := g2.len
     obtain ⟨u, hu⟩ : ∃ u, (f 0).2[0]? = some u := ⟨_, List.getElem?_eq_getElem (by omega)⟩
     have := g4 0 u hu
     have h5 := cell_spot this
     cases a with
     | mk b o sp => cases sp <;> simp_all [Addr.add]
    obtain ⟨β, off, sp⟩ := a
    simp only at hspot
    obtain ⟨rfl, hβ⟩ := hspot
    obtain ⟨k1, k2⟩ := RLs.mkAt (W := W) (σ := AllOf W) (β := β) (off := off) len f fun i hi => by
     obtain ⟨g1, g2, g3, g4⟩ := hf i hi
     refine ⟨g2, fun j u hu => ⟨hβ, ?_⟩⟩
     have := g4 j u hu
     rw [addr_add] at this
     exact this
    exact ⟨β, off, _, rfl, k1, k2⟩
  ·rw [hll]
   have := hw ((((List.range len).map D).length + ((List.range (m - len)).map fun j => D (len + j)).length) * P.bytesOf e) (by rw [DataW.weights, ht]; exact List.mem_cons_self ..)
   rw [List.length_map, List.length_range] at this
   have h2 : len * 1 ≤ (len + ((List.range (m - len)).map fun j => D (len + j)).length) * P.bytesOf e := Nat.mul_le_mul (Nat.le_add_right _ _) hB.1
   have h3 : reachBytes = 140737488351232 := rfl
   omega
  ·rw [hll]
   have := hw ((((List.range len).map D).length + ((List.range (m - len)).map fun j => D (len + j)).length) * P.bytesOf e) (by rw [DataW.weights, ht]; exact List.mem_cons_self ..)
   rw [List.length_map, List.length_range] at this
   have h2 : len * ty.low ≤ (len + ((List.range (m - len)).map fun j => D (len + j)).length) * P.bytesOf e := Nat.mul_le_mul (Nat.le_add_right _ _) hB.2
   have h3 : reachBytes = 140737488351232 := rfl
   omega
  ·intro x hx
   obtain ⟨i, hi, rfl⟩ := List.mem_map.1 hx
   exact (hf i (by simpa using hi)).2.2.1
def OpnL (P : Program) (W : World) (L : List (TypeId × Nat)) (off : Nat) (ty : Ty) : Prop :=
 ∀ (H : Type) (enc : TypeId × Value → H) (base : Nat) (spare : Nat → Bool) (held : Bool) (n : Nat) (cs : List Value) (xs : List (DataW H × List MemPlace)),
  cs.length = off + ty.sz → xs.length = L.length → (∀ (i : Nat) (q : TypeId × Nat), L[i]? = some q → DataW.trod enc P W base spare held n q.1 ((cs.drop q.2).take (P.cellsOf q.1)) = xs[i]?) →
  (∀ m ∈ DataW.weightsEach P (L.map (·.1)) (xs.map (·.1)), m ≤ reachBytes) → ∃ x : El ty, RE (AllOf W) W ty x (cs.drop off) ∧ Wf ty x
theorem opnL_one {t : TypeId} {off : Nat} {ty : Ty} (hc : P.cellsOf t = ty.sz) (h : Opn P W t ty) : OpnL P W [(t, off)] off ty := by
 intro H enc base spare held n cs xs hl hx hi hm
 have h0 := hi 0 (t, off) rfl
 match xs, hx with
 | [y], _ =>
  rw [List.take_of_length_le (by rw [List.length_drop, hl, hc]; omega)] at h0
  exact h H enc base spare held n _ y h0 (fun m hm' => hm m (by simp only [List.map_cons, List.map_nil, DataW.weightsEach, List.append_nil]; exact hm'))
theorem opnL_cons {t : TypeId} {off : Nat} {L : List (TypeId × Nat)} {ty ty1 : Ty} (hc : P.cellsOf t = ty.sz) (h : Opn P W t ty) (h1 : OpnL P W L (off + ty.sz) ty1) : OpnL P W ((t, off) :: L) off (.pair ty ty1) := by
 intro H enc base spare held n cs xs hl hx hi hm
 have h0 := hi 0 (t, off) rfl
 match xs, hx with
 | y :: xs, hx =>
  have hl' : cs.length = off + ty.sz + ty1.sz := by rw [hl]; show off + (ty.sz + ty1.sz) = _; omega
  obtain ⟨x0, k0, q0⟩ := h H enc base spare held n _ y h0 (fun m hm' => hm m (by simp only [List.map_cons, DataW.weightsEach, List.mem_append]; exact .inl hm'))
  obtain ⟨x1, k1, q1⟩ := h1 H enc base spare held n cs xs hl' (by simpa using hx) (fun i q hq => by simpa using hi (i + 1) q (by simpa using hq)) (fun m hm' => hm m (by simp only [List.map_cons, DataW.weightsEach, List.mem_append]; exact .inr hm'))
  refine ⟨(x0, x1), ⟨_, _, ?_, k0, k1⟩, q0, q1⟩
  rw [hc, ← List.drop_drop, List.take_append_drop]
theorem opn_struct {t : TypeId} {fs : Array Field} {L : List (TypeId × Nat)} {ty : Ty} (ht : P.underlying t = some (.struct fs)) (hL : fs.toList.map (fun f => (f.type, f.offset)) = L) (hc : P.cellsOf t = ty.sz) (h : OpnL P W L 0 ty) : Opn P W t ty := by
 intro H enc base spare held fuel cs y hy hm
 obtain ⟨xs, n, rfl, rfl, hlen, hxl, hi⟩ := DataW.trod_struct ht hy
 subst hL
 have := h H enc base spare held n cs xs (by rw [hlen, hc]; omega) (by rw [hxl]; simp) (fun i q hq => by
  rw [List.getElem?_map] at hq
  obtain ⟨f, hf, hfq⟩ := Option.map_eq_some_iff.1 hq
  subst hfq
  exact hi i f (by simpa using hf)) (fun m hm' => hm m (by rw [DataW.weights, ht]; rw [List.map_map] at hm'; exact hm'))
 simpa using this
theorem weightsEach_const {H : Type} {e : TypeId} : ∀ (L : List (TypeId × Nat)) (l : List (DataW H)), (∀ q ∈ L, q.1 = e) → l.length = L.length → DataW.weightsEach P (L.map (·.1)) l = DataW.weightsAll P e l
 | [], [], _, _ => rfl
 | q :: L, d :: l, hq, hl => by
  rw [List.map_cons, DataW.weightsEach, DataW.weightsAll, hq q (List.mem_cons_self ..), weightsEach_const L l (fun q' h' => hq q' (List.mem_cons_of_mem _ h')) (by simpa using hl)]
theorem opn_array {t e : TypeId} {n : Nat} {L : List (TypeId × Nat)} {ty : Ty} (ht : P.underlying t = some (.array n e)) (hL : (List.range n).map (fun i => (e, i * P.cellsOf e)) = L) (hc : P.cellsOf t = ty.sz) (h : OpnL P W L 0 ty) : Opn P W t ty := by
 intro H enc base spare held fuel cs y hy hm
 obtain ⟨xs, m, rfl, rfl, hlen, hxl, hi⟩ := DataW.trod_array ht hy
 subst hL
 have := h H enc base spare held m cs xs (by rw [hlen, hc]; omega) (by rw [hxl]; simp) (fun i q hq => by
  rw [List.getElem?_map] at hq
  obtain ⟨f, hf, hfq⟩ := Option.map_eq_some_iff.1 hq
  have hfi : f < n ∧ f = i := by
   have := List.getElem?_eq_some_iff.1 hf
   obtain ⟨h1, h2⟩ := this
   simp at h1 h2
   omega
  obtain ⟨h1, rfl⟩ := hfi
  subst hfq
  exact hi f h1) (fun m hm' => hm m (by
   rw [DataW.weights, ht]
   rw [weightsEach_const (e := e) _ _ (fun q hq => by obtain ⟨i, -, rfl⟩ := List.mem_map.1 hq; rfl) (by simp [hxl])] at hm'
   exact hm'))
 simpa using this
theorem opn_arg {H : Type} {enc : TypeId × Value → H} {base : Nat} {spare : Nat → Bool} {held : Bool} {t : TypeId} {ty : Ty} {v : Value} {dt : DataW H} {p : List MemPlace} {ts : List TypeId} {ds : List (DataW H)} {j : Nat} (h : Opn P W t ty)
  (hsz : (DataW.weightsEach P ts ds).all (· ≤ reachBytes) = true) (ht : ts[j]? = some t) (hd : ds[j]? = some dt) (hv : DataW.Trod enc P W base spare held t v dt p) : ∃ x : El ty, RE (AllOf W) W ty x v.cells.toList ∧ Wf ty x := by
 obtain ⟨fuel, hf⟩ := hv
 exact h H enc base spare held fuel _ _ hf (fun m hm => by
  have := List.all_eq_true.1 hsz _ (DataW.weights_mem_each ht hd m hm)
  simpa using this)
theorem law_calls {C : Ctx} (hT : TabOk P C.T) (hG : CtxOk P C) (hm : P.follows .mixedOrders = true) {f : FuncId} {fn : Func} {c : Code} {sg : List Shp} {n : Nat} {x : El (sgTy sg)} {vs : List Value} (hf : P.funcs[f]? = some fn) (hb : fn.body = some c)
  (h : call C fn c sg (.one (.v .bool)) n x = some true) (hs : RS (AllOf W) W sg x vs) : Calls P f vs.toArray W fun e w' => e = .returned (.bool true) ∧ Below W.heap.size W w' := by
 refine (call_sound hT hG hm hf hb h (fun b o h => h) hs).mono ?_
 rintro e w' ⟨v, σ', rfl, hg, hr⟩
 have hr : [v] = [Value.bool true] := hr
 simp only [List.cons.injEq, and_true] at hr
 exact ⟨by rw [hr], hg.below⟩
end Go.Proofs.YtkaihbkfobiejaaGreatDoor.Xe
