/- The executor: a region whose order is open: one operation, and all of them. -/
import Derived.Test.YtnhogpbibcgpkaaXs
namespace Go.Proofs.Ytnhogpbibcgpkaa.Xe
open Go Go.RowKit
set_option linter.unusedVariables false
set_option linter.unusedSimpArgs false
variable {P : Program} {R : Type} {w0 : World} {σ0 : Nat → Nat → Prop} {r : R} {C : Ctx} {ops : Array Oper} {sI : St} {S : Nat → St} {idf : Nat → Nat}
theorem xs_xa {s : St} {o : Op} {K : AV → St → Option R} (hq : quiet o = true) (hl : isLoad o = false) : xs C true s o K = xa C (ev s) o fun v => K v s := by
  unfold xs
  split
  · cases hq
  · cases hq
  · cases hl
  · cases hq
  · rfl
  · cases hq
  · cases hq
  · cases hq
  · cases hq
  · cases hq
  · cases hq
  · cases hq
  · cases hq
  · rfl
theorem getD_list (a : Act) (t : Nat) : a.tmps.getD t undef = a.tmps.toList.getD t undef := by simp [List.getD_eq_getElem?_getD]
theorem act_put_getD (a : Act) (d : Option Tmp) (v : Value) (t : Nat) : (a.put d v).tmps.getD t undef = if d = some t ∧ t < a.tmps.size then v else a.tmps.getD t undef := by
  cases d with
  | none => rw [if_neg (fun h => by cases h.1)]; rfl
  | some d =>
    show (a.tmps.setIfInBounds d v).getD t undef = _
    rw [Array.getD_eq_getD_getElem?, Array.getElem?_setIfInBounds]
    by_cases h : d = t
    · subst h
      by_cases hl : d < a.tmps.size
      · rw [if_pos rfl, if_pos hl, if_pos ⟨rfl, hl⟩]; rfl
      · have hn : a.tmps[d]? = none := Array.getElem?_eq_none (Nat.le_of_not_lt hl)
        rw [if_pos rfl, if_neg hl, if_neg (fun h => hl h.2), Array.getD_eq_getD_getElem?, hn]
    · rw [if_neg h, if_neg (fun e => h (Option.some.inj e.1)), Array.getD_eq_getD_getElem?]
theorem act_put_size (a : Act) (d : Option Tmp) (v : Value) : (a.put d v).tmps.size = a.tmps.size := by cases d <;> simp [Act.put]
section
variable {L : Array Bool} {a aa : Act} {w w1 : World} {ρ ρ1 : Env} {σ σ1 : Nat → Nat → Prop} {κ i : Nat} {o : Oper}
/-- A new one is listed: what has been seen of all others stays. -/
theorem Inv.next (hI : Inv P C ops sI S idf w0 σ0 ρ1 σ1 w1 aa L a w ρ σ κ) (h : DR C ops sI S idf) (hi : ops[i]? = some o) (hl : L.getD i false = false) (hr : ∀ e ∈ aft o, L.getD e.on false = true)
    {v : Value} {w' : World} {ρ' : Env} {σ' : Nat → Nat → Prop} {κ' : Nat} (hm : Mono ρ σ w ρ' σ' w') (hv : ∀ d, o.dst = some d → d < sI.tmps.length → RA ρ' w0.heap.size σ' w' ((S ops.size).tmps.getD d .junk) v)
    (kle : κ' ≤ ops.size) (kap : ∀ (j : Nat) p, ops[j]? = some p → isHeap p.op = true → ((L.setIfInBounds i true).getD j false = true ↔ j < κ'))
    (hh : HR P w0 σ0 ρ' σ' (fun b => @ite _ (∃ (j : Nat) (p : Oper), ops[j]? = some p ∧ isAlloc p.op = true ∧ idf j = b ∧ (L.setIfInBounds i true).getD j false = false) (Classical.propDecidable _) none ((S κ').boxes[b]?)) (S κ').alive w') :
    Inv P C ops sI S idf w0 σ0 ρ1 σ1 w1 aa (L.setIfInBounds i true) (a.put o.dst v) w' ρ' σ' κ' where
  size := by rw [Array.size_setIfInBounds]; exact hI.size
  closed := fun j p hj hp e he => by
    rw [not_box hi hl hI.size] at hp ⊢
    split at hp
    · rename_i hji
      subst hji
      rw [hi] at hj
      obtain rfl := Option.some.inj hj
      rw [hr e he]; simp
    · rw [hI.closed j p hj hp e he]; simp
  kle := kle
  kap := kap
  tsz := by rw [act_put_size]; exact hI.tsz
  tmp := fun t ht => by
    rw [act_put_getD]
    split
    · rename_i hc
      exact hv t hc.1 (by rw [← hI.tsz]; exact hc.2)
    · rename_i hc
      by_cases hd : o.dst = some t
      · have hge : ¬ t < a.tmps.size := fun hlt => hc ⟨hd, hlt⟩
        have hS : (S ops.size).tmps.getD t .junk = .junk := by
          rw [List.getD_eq_getElem?_getD, List.getElem?_eq_none (by rw [h.len ops.size (Nat.le_refl _), ← hI.tsz]; exact Nat.le_of_not_lt hge)]; rfl
        rw [hS]; trivial
      · refine RA.mono hm _ (hI.tmp t fun j p hj hp => ?_)
        have := ht j p hj hp
        rw [not_box hi hl hI.size] at this
        split at this
        · rename_i hji; subst hji; rw [hi] at hj; obtain rfl := Option.some.inj hj; exact absurd hp hd
        · exact this
  tmp0 := fun t ht => by
    have hnd : o.dst ≠ some t := fun hd => by
      have := ht i o hi hd
      rw [not_box hi hl hI.size, if_pos rfl] at this
      cases this
    rw [act_put_getD, if_neg (fun hc => hnd hc.1)]
    refine RA.mono hm _ (hI.tmp0 t fun j p hj hp => ?_)
    have := ht j p hj hp
    rw [not_box hi hl hI.size] at this
    split at this
    · cases this
    · exact this
  heap := hh
  defers := by rw [put_defers]; exact hI.defers
  mono := hI.mono.trans hm
/-- What an operation looks at is there. -/
theorem Inv.looks (hI : Inv P C ops sI S idf w0 σ0 ρ1 σ1 w1 aa L a w ρ σ κ) (h : DR C ops sI S idf) (hi : ops[i]? = some o) (hl : L.getD i false = false) (hr : ∀ e ∈ aft o, L.getD e.on false = true) {t : Nat} (ht : t ∈ o.looksAt ops) :
    RA ρ w0.heap.size σ w ((S i).tmps.getD t .junk) (a.tmps.getD t undef) := by
  have hin : i < ops.size := (Array.getElem?_eq_some_iff.1 hi).1
  have hanc : ∀ (j : Nat) p, ops[j]? = some p → p.dst = some t → j ∈ (ancs ops.toList []).getD i [] ∨ (isAlloc p.op = false ∧ i ∈ (ancs ops.toList []).getD j []) := fun j p hj hp => by
    refine h.look i j o p t hi hj (fun e => ?_) hp ht
    subst e
    rw [hi] at hj
    obtain rfl := Option.some.inj hj
    exact h.self j o t hi hp ht
  by_cases hb : ∃ (j : Nat) (p : Oper), ops[j]? = some p ∧ p.dst = some t ∧ isAlloc p.op = false ∧ i ∈ (ancs ops.toList []).getD j []
  · obtain ⟨j, p, hj, hp, hpa, hij⟩ := hb
    have hlt := h.anc_lt j p hj i hij
    have hone : ∀ (x : Nat) q, ops[x]? = some q → q.dst = some t → x = j := fun x q hx hq => h.uniq x j q p t hx hj hq hp
    have g := hI.tmp0 t fun x q hx hq => by
      obtain rfl := hone x q hx hq
      cases hL : L.getD x false with
      | false => rfl
      | true =>
        have := h.listed hI.closed x q hx (hI.closed x q hx hL) i (by rw [hj] at hx; obtain rfl := Option.some.inj hx; exact hij)
        rw [hl] at this; cases this
    refine RA.of_eqv ?_ g
    have h0 : (S 0).tmps.getD t .junk = sI.tmps.getD t .junk := h.made.keep t fun x q hx hq hqd => by
      have hx' : ops[x]? = some q := by rw [← Array.getElem?_toList]; exact hx
      obtain rfl := hone x q hx' hqd
      rw [hj] at hx'
      obtain rfl := Option.some.inj hx'
      rw [hpa] at hq; cases hq
    have := h.eqv (k := 0) (t := t) i (by omega) (fun x h1 h2 q hx ha hq => by have := hone x q hx hq; omega)
    rw [Nat.zero_add, h0] at this
    exact this.symm
  · have hanc' : ∀ (j : Nat) p, ops[j]? = some p → p.dst = some t → j ∈ (ancs ops.toList []).getD i [] := fun j p hj hp => (hanc j p hj hp).elim id fun hh => absurd ⟨j, p, hj, hp, hh.1, hh.2⟩ hb
    have g := hI.tmp t fun j p hj hp => h.listed hI.closed i o hi hr j (hanc' j p hj hp)
    refine RA.of_eqv ?_ g
    have := h.eqv (k := i) (t := t) (ops.size - i) (by omega) (fun x h1 h2 p hx ha hp => by have := h.anc_lt i o hi x (hanc' x p hx hp); omega)
    rw [show i + (ops.size - i) = ops.size by omega] at this
    exact this
theorem Inv.wants (hI : Inv P C ops sI S idf w0 σ0 ρ1 σ1 w1 aa L a w ρ σ κ) (h : DR C ops sI S idf) (hi : ops[i]? = some o) (hl : L.getD i false = false) (hr : ∀ e ∈ aft o, L.getD e.on false = true) {s' : St} {b : Bool} (hg : Grd ops o (S i) s' b) :
    Region.wanted o (yielded ops a.tmps) = b := by
  have hlook : ∀ {j w t}, o.guard = some (j, w) → guardTmp ops j = some t → t ∈ o.looksAt ops := fun {j w t} h1 h2 => by
    unfold Oper.looksAt
    rw [h1]
    unfold guardTmp at h2
    simp [h2]
  have hyb : ∀ {j w t} {p : Prop} {d : Decidable p}, o.guard = some (j, w) → guardTmp ops j = some t → (S i).tmps.getD t .junk = .bool p d → yielded ops a.tmps j = some (@decide p d) := fun {j w t p d} h1 h2 h3 => by
    have g := hI.looks h hi hl hr (hlook h1 h2)
    rw [h3] at g
    have g : a.tmps.getD t undef = .bool (@decide p d) := g
    have hs : a.tmps[t]? = some (.bool (@decide p d)) := by
      rw [Array.getD_eq_getD_getElem?] at g
      cases hx : a.tmps[t]? with
      | none => rw [hx] at g; cases g
      | some v => rw [hx] at g; exact congrArg some g
    unfold guardTmp at h2
    simp [Go.yielded, h2, hs]
  have hw : ∀ {j w}, o.guard = some (j, w) → Region.wanted o (Go.yielded ops a.tmps) = (Go.yielded ops a.tmps j == some w) := fun h1 => by unfold Region.wanted; rw [h1]
  have hnone : ∀ {j : Nat}, guardTmp ops j = none → Go.yielded ops a.tmps j = none := fun {j} h2 => by unfold guardTmp at h2; simp [Go.yielded, h2]
  have htup : ∀ {j w t}, o.guard = some (j, w) → guardTmp ops j = some t → (S i).tmps.getD t .junk = .tup [] → Go.yielded ops a.tmps j = none := fun {j w t} h1 h2 h3 => by
    have g := hI.looks h hi hl hr (hlook h1 h2)
    rw [h3] at g
    obtain ⟨vs, g, _⟩ := g
    rw [Array.getD_eq_getD_getElem?] at g
    unfold guardTmp at h2
    cases hx : a.tmps[t]? with
    | none => simp [Go.yielded, h2, hx]
    | some v => rw [hx] at g; have g : v = .tuple vs := g; simp [Go.yielded, h2, hx, g]
  cases hg with
  | free h1 => unfold Region.wanted; rw [h1]
  | none h1 h2 => rw [hw h1, hnone h2]; rfl
  | tup h1 h2 h3 => rw [hw h1, htup h1 h2 h3]; rfl
  | yes h1 h2 h3 hp =>
    rw [hw h1, hyb h1 h2 h3, decide_eq_true hp]
    cases b <;> rfl
  | no h1 h2 h3 hp =>
    rw [hw h1, hyb h1 h2 h3, decide_eq_false hp]
    rename_i w _ _ _
    cases w <;> rfl
/-- Behind which place no more of the heap's operations have come up. -/
theorem Inv.heapAt (hI : Inv P C ops sI S idf w0 σ0 ρ1 σ1 w1 aa L a w ρ σ κ) (h : DR C ops sI S idf) (hi : ops[i]? = some o) (hl : L.getD i false = false) (hr : ∀ e ∈ aft o, L.getD e.on false = true) (hk : isHeap o.op = true) :
    (S κ).boxes = (S i).boxes ∧ (S κ).alive = (S i).alive := by
  have hin : i < ops.size := (Array.getElem?_eq_some_iff.1 hi).1
  have hno : ∀ (x : Nat), min i κ ≤ x → x < max i κ → ∀ p, ops[x]? = some p → isHeap p.op = false := by
    intro x h1 h2 p hx
    cases hh : isHeap p.op with
    | false => rfl
    | true =>
      exfalso
      have hkx := hI.kap x p hx hh
      by_cases hxi : x = i
      · subst hxi
        rw [hi] at hx
        obtain rfl := Option.some.inj hx
        rw [hl] at hkx
        have : ¬ x < κ := fun hlt => by have := hkx.2 hlt; cases this
        omega
      · have hord := h.heap x i p o hx hi (fun e => hxi e.symm) hh (.inl hk)
        rcases Nat.lt_or_gt_of_ne hxi with hlt | hgt
        · rw [if_neg (by omega)] at hord
          have := h.listed hI.closed i o hi hr x hord
          have := hkx.1 this
          omega
        · rw [if_pos hgt] at hord
          have hxl : ¬ L.getD x false = true := fun hxl => by
            have := h.listed hI.closed x p hx (hI.closed x p hx hxl) i hord
            rw [hl] at this; cases this
          have : ¬ x < κ := fun hlt => hxl (hkx.2 hlt)
          omega
  by_cases hle : i ≤ κ
  · have := h.stills (k := i) (κ - i) (by have := hI.kle; omega) (fun x h1 h2 p hp => hno x (by omega) (by omega) p hp)
    rw [show i + (κ - i) = κ by omega] at this
    exact this
  · have := h.stills (k := κ) (i - κ) (by omega) (fun x h1 h2 p hp => hno x (by omega) (by omega) p hp)
    rw [show κ + (i - κ) = i by omega] at this
    exact ⟨this.1.symm, this.2.symm⟩
/-- The same for what reads variables. -/
theorem Inv.loadAt (hI : Inv P C ops sI S idf w0 σ0 ρ1 σ1 w1 aa L a w ρ σ κ) (h : DR C ops sI S idf) (hi : ops[i]? = some o) (hl : L.getD i false = false) (hr : ∀ e ∈ aft o, L.getD e.on false = true) (hk : isLoad o.op = true) :
    (S κ).boxes = (S i).boxes := by
  have hin : i < ops.size := (Array.getElem?_eq_some_iff.1 hi).1
  have hno : ∀ (x : Nat), min i κ ≤ x → x < max i κ → ∀ p, ops[x]? = some p → isStore p.op = false := by
    intro x h1 h2 p hx
    cases hs : isStore p.op with
    | false => rfl
    | true =>
      exfalso
      have hh := isStore_heap hs
      have hkx := hI.kap x p hx hh
      by_cases hxi : x = i
      · subst hxi
        rw [hi] at hx
        obtain rfl := Option.some.inj hx
        rw [hl] at hkx
        have : ¬ x < κ := fun hlt => by have := hkx.2 hlt; cases this
        omega
      · have hord := h.heap x i p o hx hi (fun e => hxi e.symm) hh (.inr ⟨hs, hk⟩)
        rcases Nat.lt_or_gt_of_ne hxi with hlt | hgt
        · rw [if_neg (by omega)] at hord
          have := h.listed hI.closed i o hi hr x hord
          have := hkx.1 this
          omega
        · rw [if_pos hgt] at hord
          have hxl : ¬ L.getD x false = true := fun hxl => by
            have := h.listed hI.closed x p hx (hI.closed x p hx hxl) i hord
            rw [hl] at this; cases this
          have : ¬ x < κ := fun hlt => hxl (hkx.2 hlt)
          omega
  by_cases hle : i ≤ κ
  · have := h.stillsB (k := i) (κ - i) (by have := hI.kle; omega) (fun x h1 h2 p hp => hno x (by omega) (by omega) p hp)
    rw [show i + (κ - i) = κ by omega] at this
    exact this
  · have := h.stillsB (k := κ) (i - κ) (by omega) (fun x h1 h2 p hp => hno x (by omega) (by omega) p hp)
    rw [show κ + (i - κ) = i by omega] at this
    exact this.symm
end
end Go.Proofs.Ytnhogpbibcgpkaa.Xe
