import Derived.Test.YtkaihbkfobiejaaGreatDoorZ4
import Derived.Test.YtkaihbkfobiejaaGreatDoorZ0
namespace Go.Proofs.YtkaihbkfobiejaaGreatDoor.Xe
open Go Go.RowKit
set_option linter.unusedVariables false
set_option linter.unusedSimpArgs false
variable {P : Program} {R : Type} {w0 : World} {σ0 : Nat → Nat → Prop} {r : R} {C : Ctx} {ops : Array Oper} {sI : St} {S : Nat → St} {idf : Nat → Nat}
theorem xs_xa {s : St} {o : Op} {K : AV → St → Option R} (hq : quiet C o = true) (hl : isLoad o = false) : xs C true s o K = xa C (ev s) o fun v => K v s := by
 unfold xs
 split
 ·cases hq
 ·cases hq
 ·cases hl
 ·cases hq
 ·rfl
 ·cases hq
 ·cases hq
 ·cases hq
 ·cases hq
 ·cases hq
 ·cases hq
 ·cases hq
 ·cases hq
 ·exact if_pos ⟨rfl, quiet_callS hq⟩
theorem getD_list (a : Act) (t : Nat) : a.tmps.getD t undef = a.tmps.toList.getD t undef := by simp [List.getD_eq_getElem?_getD]
theorem act_put_getD (a : Act) (d : Option Tmp) (v : Value) (t : Nat) : (a.put d v).tmps.getD t undef = if d = some t ∧ t < a.tmps.size then v else a.tmps.getD t undef := by
 cases d with
 | none => rw [if_neg (fun h => by cases h.1)]; rfl
 | some d =>
  show (a.tmps.setIfInBounds d v).getD t undef = _
  rw [Array.getD_eq_getD_getElem?, Array.getElem?_setIfInBounds]
  by_cases h : d = t
  ·subst h
   by_cases hl : d < a.tmps.size
   ·rw [if_pos rfl, if_pos hl, if_pos ⟨rfl, hl⟩]; rfl
   ·have hn : a.tmps[d]? = none := Array.getElem?_eq_none (Nat.le_of_not_lt hl)
    rw [if_pos rfl, if_neg hl, if_neg (fun h => hl h.2), Array.getD_eq_getD_getElem?, hn]
  ·rw [if_neg h, if_neg (fun e => h (Option.some.inj e.1)), Array.getD_eq_getD_getElem?]
theorem act_put_size (a : Act) (d : Option Tmp) (v : Value) : (a.put d v).tmps.size = a.tmps.size := by cases d <;> simp [Act.put]
section
variable {L : Array Bool} {a aa : Act} {w w1 : World} {ρ ρ1 : Env} {σ σ1 : Nat → Nat → Prop} {κ i : Nat} {o : Oper}
theorem Inv.next (hI : Inv P C ops sI S idf w0 σ0 ρ1 σ1 w1 aa L a w ρ σ κ) (h : DR C ops sI S idf) (hi : ops[i]? = some o) (hl : L.getD i false = false) (hr : ∀ e ∈ aft o, L.getD e.on false = true)
  {v : Value} {w' : World} {ρ' : Env} {σ' : Nat → Nat → Prop} {κ' : Nat} (hm : Mono ρ σ w ρ' σ' w') (hv : ∀ d, o.dst = some d → d < sI.tmps.length → RA ρ' w0.heap.size σ' w' ((S ops.size).tmps.getD d .junk) v)
  (kle : κ' ≤ ops.size) (kap : ∀ (j : Nat) p, ops[j]? = some p → isHeap C p.op = true → ((L.setIfInBounds i true).getD j false = true ↔ j < κ'))
  (hh : HR P w0 σ0 ρ' σ' (fun b => @ite _ (∃ (j : Nat) (p : Oper), ops[j]? = some p ∧ isAlloc p.op = true ∧ idf j = b ∧ (L.setIfInBounds i true).getD j false = false) (Classical.propDecidable _) none ((S κ').boxes[b]?)) (S κ').alive w') :
  Inv P C ops sI S idf w0 σ0 ρ1 σ1 w1 aa (L.setIfInBounds i true) (a.put o.dst v) w' ρ' σ' κ' where
 size := by rw [Array.size_setIfInBounds]; exact hI.size
 closed := fun j p hj hp e he => by
  rw [not_box hi hl hI.size] at hp ⊢
  split at hp
  ·rename_i hji
   subst hji
   rw [hi] at hj
   obtain rfl := Option.some.inj hj
   rw [hr e he]; simp
  ·rw [hI.closed j p hj hp e he]; simp
 kle := kle
 kap := kap
 tsz := by rw [act_put_size]; exact hI.tsz
 tmp := fun t ht => by
  rw [act_put_getD]
  split
  ·rename_i hc
   exact hv t hc.1 (by rw [← hI.tsz]; exact hc.2)
  ·rename_i hc
   by_cases hd : o.dst = some t
   ·have hge : ¬ t < a.tmps.size := fun hlt => hc ⟨hd, hlt⟩
    have hS : (S ops.size).tmps.getD t .junk = .junk := by
     rw [List.getD_eq_getElem?_getD, List.getElem?_eq_none (by rw [h.len ops.size (Nat.le_refl _), ← hI.tsz]; exact Nat.le_of_not_lt hge)]; rfl
    rw [hS]; trivial
   ·refine RA.mono hm _ (hI.tmp t fun j p hj hp => ?_)
    have := ht j p hj hp
    rw [not_box hi hl hI.size] at this
    split at this
    ·rename_i hji; subst hji; rw [hi] at hj; obtain rfl := Option.some.inj hj; exact absurd hp hd
    ·exact this
 tmp0 := fun t ht => by
  have hnd : o.dst ≠ some t := fun hd => by
   have := ht i o hi hd
   rw [not_box hi hl hI.size, if_pos rfl] at this
   cases this
  rw [act_put_getD, if_neg (fun hc => hnd hc.1)]
  refine RA.mono hm _ (hI.tmp0 t fun j p hj hp => ?_)
  have := ht j p hj hp
  rw [not_box hi hl hI.size] at this
  split at this
  ·cases this
  ·exact this
 heap := hh
 defers := by rw [put_defers]; exact hI.defers
 mono := hI.mono.trans hm
theorem Inv.looks (hI : Inv P C ops sI S idf w0 σ0 ρ1 σ1 w1 aa L a w ρ σ κ) (h : DR C ops sI S idf) (hi : ops[i]? = some o) (hl : L.getD i false = false) (hr : ∀ e ∈ aft o, L.getD e.on false = true) {t : Nat} (ht : t ∈ o.looksAt ops) :
  RA ρ w0.heap.size σ w ((S i).tmps.getD t .junk) (a.tmps.getD t undef) := by
 have hin : i < ops.size := (Array.getElem?_eq_some_iff.1 hi).1
 have hanc : ∀ (j : Nat) p, ops[j]? = some p → p.dst = some t → j ∈ (ancs ops.toList []).getD i [] ∨ (isAlloc p.op = false ∧ i ∈ (ancs ops.toList []).getD j []) := fun j p hj hp => by
  refine h.look i j o p t hi hj (fun e => ?_) hp ht
  subst e
  rw [hi] at hj
  obtain rfl := Option.some.inj hj
  exact h.self j o t hi hp ht
 by_cases hb : ∃ (j : Nat) (p : Oper), ops[j]? = some p ∧ p.dst = some t ∧ isAlloc p.op = false ∧ i ∈ (ancs ops.toList []).getD j []
 ·obtain ⟨j, p, hj, hp, hpa, hij⟩ := hb
  have hlt := h.anc_lt j p hj i hij
  have hone : ∀ (x : Nat) q, ops[x]? = some q → q.dst = some t → x = j := fun x q hx hq => h.uniq x j q p t hx hj hq hp
  have g := hI.tmp0 t fun x q hx hq => by
   obtain rfl := hone x q hx hq
   cases hL : L.getD x false with
   | false => rfl
   | true =>
    have := h.listed hI.closed x q hx (hI.closed x q hx hL) i (by rw [hj] at hx; obtain rfl := Option.some.inj hx; exact hij)
    rw [hl] at this; cases this
  refine RA.of_eqv ?_ g
  have h0 : (S 0).tmps.getD t .junk = sI.tmps.getD t .junk := h.made.keep t fun x q hx hq hqd => by
   have hx' : ops[x]? = some q := by rw [← Array.getElem?_toList]; exact hx
   obtain rfl := hone x q hx' hqd
   rw [hj] at hx'
   obtain rfl := Option.some.inj hx'
   rw [hpa] at hq; cases hq
  have := h.eqv (k := 0) (t := t) i (by omega) (fun x h1 h2 q hx ha hq => by have := hone x q hx hq; omega)
  rw [Nat.zero_add, h0] at this
  exact this.symm
 ·have hanc' : ∀ (j : Nat) p, ops[j]? = some p → p.dst = some t → j ∈ (ancs ops.toList []).getD i [] := fun j p hj hp => (hanc j p hj hp).elim id fun hh => absurd ⟨j, p, hj, hp, hh.1, hh.2⟩ hb
  have g := hI.tmp t fun j p hj hp => h.listed hI.closed i o hi hr j (hanc' j p hj hp)
  refine RA.of_eqv ?_ g
  have := h.eqv (k := i) (t := t) (ops.size - i) (by omega) (fun x h1 h2 p hx ha hp => by have := h.anc_lt i o hi x (hanc' x p hx hp); omega)
  rw [show i + (ops.size - i) = ops.size by omega] at this
  exact this
theorem Inv.wants (hI : Inv P C ops sI S idf w0 σ0 ρ1 σ1 w1 aa L a w ρ σ κ) (h : DR C ops sI S idf) (hi : ops[i]? = some o) (hl : L.getD i false = false) (hr : ∀ e ∈ aft o, L.getD e.on false = true) {s' : St} {b : Bool} (hg : Grd ops o (S i) s' b) :
  Region.wanted o (yielded ops a.tmps) = b := by
 have hlook : ∀ {j w t}, o.guard = some (j, w) → guardTmp ops j = some t → t ∈ o.looksAt ops := fun {j w t} h1 h2 => by
  unfold Oper.looksAt
  rw [h1]
  unfold guardTmp at h2
  simp [h2]
 have hyb : ∀ {j w t} {p : Prop} {d : Decidable p}, o.guard = some (j, w) → guardTmp ops j = some t → (S i).tmps.getD t .junk = .bool p d → yielded ops a.tmps j = some (@decide p d) := fun {j w t p d} h1 h2 h3 => by
  have g := hI.looks h hi hl hr (hlook h1 h2)
  rw [h3] at g
  have g : a.tmps.getD t undef = .bool (@decide p d) := g
  have hs : a.tmps[t]? = some (.bool (@decide p d)) := by
   rw [Array.getD_eq_getD_getElem?] at g
   cases hx : a.tmps[t]? with
   | none => rw [hx] at g; cases g
   | some v => rw [hx] at g; exact congrArg some g
  unfold guardTmp at h2
  simp [Go.yielded, h2, hs]
 have hw : ∀ {j w}, o.guard = some (j, w) → Region.wanted o (Go.yielded ops a.tmps) = (Go.yielded ops a.tmps j == some w) := fun h1 => by unfold Region.wanted; rw [h1]
 have hnone : ∀ {j : Nat}, guardTmp ops j = none → Go.yielded ops a.tmps j = none := fun {j} h2 => by unfold guardTmp at h2; simp [Go.yielded, h2]
 have htup : ∀ {j w t}, o.guard = some (j, w) → guardTmp ops j = some t → (S i).tmps.getD t .junk = .tup [] → Go.yielded ops a.tmps j = none := fun {j w t} h1 h2 h3 => by
  have g := hI.looks h hi hl hr (hlook h1 h2)
  rw [h3] at g
  obtain ⟨vs, g, _⟩ := g
  rw [Array.getD_eq_getD_getElem?] at g
  unfold guardTmp at h2
  cases hx : a.tmps[t]? with
  | none => simp [Go.yielded, h2, hx]
  | some v => rw [hx] at g; have g : v = .tuple vs := g; simp [Go.yielded, h2, hx, g]
 cases hg with
 | free h1 => unfold Region.wanted; rw [h1]
 | none h1 h2 => rw [hw h1, hnone h2]; rfl
 | tup h1 h2 h3 => rw [hw h1, htup h1 h2 h3]; rfl
 | yes h1 h2 h3 hp =>
  rw [hw h1, hyb h1 h2 h3, decide_eq_true hp]
  cases b <;> rfl
 | no h1 h2 h3 hp =>
  rw [hw h1, hyb h1 h2 h3, decide_eq_false hp]
  rename_i w _ _ _
  cases w <;> rfl
theorem Inv.heapAt (hI : Inv P C ops sI S idf w0 σ0 ρ1 σ1 w1 aa L a w ρ σ κ) (h : DR C ops sI S idf) (hi : ops[i]? = some o) (hl : L.getD i false = false) (hr : ∀ e ∈ aft o, L.getD e.on false = true) (hk : isHeap C o.op = true) :
  (S κ).boxes = (S i).boxes ∧ (S κ).alive = (S i).alive := by
 have hin : i < ops.size := (Array.getElem?_eq_some_iff.1 hi).1
 have hno : ∀ (x : Nat), min i κ ≤ x → x < max i κ → ∀ p, ops[x]? = some p → isHeap C p.op = false := by
  intro x h1 h2 p hx
  cases hh : isHeap C p.op with
  | false => rfl
  | true =>
   exfalso
   have hkx := hI.kap x p hx hh
   by_cases hxi : x = i
   ·subst hxi
    rw [hi] at hx
    obtain rfl := Option.some.inj hx
    rw [hl] at hkx
    have : ¬ x < κ := fun hlt => by have := hkx.2 hlt; cases this
    omega
   ·have hord := h.heap x i p o hx hi (fun e => hxi e.symm) hh (.inl hk)
    rcases Nat.lt_or_gt_of_ne hxi with hlt | hgt
    ·rw [if_neg (by omega)] at hord
     have := h.listed hI.closed i o hi hr x hord
     have := hkx.1 this
     omega
    ·rw [if_pos hgt] at hord
     have hxl : ¬ L.getD x false = true := fun hxl => by
      have := h.listed hI.closed x p hx (hI.closed x p hx hxl) i hord
      rw [hl] at this; cases this
     have : ¬ x < κ := fun hlt => hxl (hkx.2 hlt)
     omega
 by_cases hle : i ≤ κ
 ·have := h.stills (k := i) (κ - i) (by have := hI.kle; omega) (fun x h1 h2 p hp => hno x (by omega) (by omega) p hp)
  rw [show i + (κ - i) = κ by omega] at this
  exact this
 ·have := h.stills (k := κ) (i - κ) (by omega) (fun x h1 h2 p hp => hno x (by omega) (by omega) p hp)
  rw [show κ + (i - κ) = i by omega] at this
  exact ⟨this.1.symm, this.2.symm⟩
theorem Inv.loadAt (hI : Inv P C ops sI S idf w0 σ0 ρ1 σ1 w1 aa L a w ρ σ κ) (h : DR C ops sI S idf) (hi : ops[i]? = some o) (hl : L.getD i false = false) (hr : ∀ e ∈ aft o, L.getD e.on false = true) (hk : isLoadB C ops o = true) :
  (S κ).boxes = (S i).boxes := by
 have hin : i < ops.size := (Array.getElem?_eq_some_iff.1 hi).1
 have hno : ∀ (x : Nat), min i κ ≤ x → x < max i κ → ∀ p, ops[x]? = some p → isStore C p.op = false := by
  intro x h1 h2 p hx
  cases hs : isStore C p.op with
  | false => rfl
  | true =>
   exfalso
   have hh := isStore_heap hs
   have hkx := hI.kap x p hx hh
   by_cases hxi : x = i
   ·subst hxi
    rw [hi] at hx
    obtain rfl := Option.some.inj hx
    rw [hl] at hkx
    have : ¬ x < κ := fun hlt => by have := hkx.2 hlt; cases this
    omega
   ·have hord := h.heap x i p o hx hi (fun e => hxi e.symm) hh (.inr ⟨hs, hk⟩)
    rcases Nat.lt_or_gt_of_ne hxi with hlt | hgt
    ·rw [if_neg (by omega)] at hord
     have := h.listed hI.closed i o hi hr x hord
     have := hkx.1 this
     omega
    ·rw [if_pos hgt] at hord
     have hxl : ¬ L.getD x false = true := fun hxl => by
      have := h.listed hI.closed x p hx (hI.closed x p hx hxl) i hord
      rw [hl] at this; cases this
     have : ¬ x < κ := fun hlt => hxl (hkx.2 hlt)
     omega
 by_cases hle : i ≤ κ
 ·have := h.stillsB (k := i) (κ - i) (by have := hI.kle; omega) (fun x h1 h2 p hp => hno x (by omega) (by omega) p hp)
  rw [show i + (κ - i) = κ by omega] at this
  exact this
 ·have := h.stillsB (k := κ) (i - κ) (by omega) (fun x h1 h2 p hp => hno x (by omega) (by omega) p hp)
  rw [show κ + (i - κ) = i by omega] at this
  exact this.symm
theorem Inv.loadOff (hI : Inv P C ops sI S idf w0 σ0 ρ1 σ1 w1 aa L a w ρ σ κ) (h : DR C ops sI S idf) (hi : ops[i]? = some o) (hl : L.getD i false = false) (hr : ∀ e ∈ aft o, L.getD e.on false = true) {s' : St} {g : Bool} (hg : Grd ops o (S i) s' g) {b : Nat} (hoff : offAll C ops s' o b = true) :
  (S κ).boxes[b]? = (S i).boxes[b]? := by
 have hin : i < ops.size := (Array.getElem?_eq_some_iff.1 hi).1
 unfold offAll at hoff
 rw [Bool.and_eq_true] at hoff
 obtain ⟨hd, hoff⟩ := hoff
 obtain ⟨d0, hd0⟩ := Option.isSome_iff_exists.1 hd
 have hidx : (ops.toList.findIdx fun q => q.dst == o.dst) = i := by
  have hex : ∃ q ∈ ops.toList, (q.dst == o.dst) = true := ⟨o, by rw [List.mem_iff_getElem?]; exact ⟨i, by rw [Array.getElem?_toList]; exact hi⟩, by simp⟩
  have hlt := List.findIdx_lt_length_of_exists hex
  have hgt := List.findIdx_getElem (w := hlt)
  have hq : ops[ops.toList.findIdx fun q => q.dst == o.dst]? = some (ops.toList[ops.toList.findIdx fun q => q.dst == o.dst]'hlt) := by
   rw [← Array.getElem?_toList]; exact List.getElem?_eq_getElem hlt
  have he : (ops.toList[ops.toList.findIdx fun q => q.dst == o.dst]'hlt).dst = o.dst := by simpa using hgt
  exact h.uniq _ i _ o d0 hq hi (he.trans hd0) hd0
 simp only [hidx] at hoff
 have hst : ∀ (x : Nat), min i κ ≤ x → x < max i κ → ∀ p, ops[x]? = some p → (S (x + 1)).boxes[b]? = (S x).boxes[b]? := by
  intro x h1 h2 p hx
  cases hs : isStore C p.op with
  | false => rw [h.stillB hx hs]
  | true =>
   have hz : (p, x) ∈ ops.toList.zipIdx := by
    rw [List.mem_iff_getElem?]
    exact ⟨x, by rw [List.getElem?_zipIdx, Array.getElem?_toList, hx]; simp⟩
   have hq := List.all_eq_true.1 hoff (p, x) hz
   simp only [hs, Bool.not_true, Bool.false_or, Bool.or_eq_true] at hq
   rcases hq with hq | hq
   ·exfalso
    have hh := isStore_heap hs
    have hkx := hI.kap x p hx hh
    by_cases hxi : x = i
    ·subst hxi
     rw [hi] at hx
     obtain rfl := Option.some.inj hx
     rw [hl] at hkx
     have : ¬ x < κ := fun hlt => by have := hkx.2 hlt; cases this
     omega
    ·rcases Nat.lt_or_gt_of_ne hxi with hlt | hgt
     ·rw [if_pos hlt] at hq
      have := h.listed hI.closed i o hi hr x (msk_anc hq)
      have := hkx.1 this
      omega
     ·rw [if_neg (by omega)] at hq
      have hxl : ¬ L.getD x false = true := fun hxl => by
       have := h.listed hI.closed x p hx (hI.closed x p hx hxl) i (msk_anc hq)
       rw [hl] at this; cases this
      have : ¬ x < κ := fun hlt => hxl (hkx.2 hlt)
      omega
   ·split at hq
    ·rename_i t d y hp
     rw [Bool.and_eq_true] at hq
     obtain ⟨hq1, hq2⟩ := hq
     have hnd : ∀ (x : Nat) o, ops[x]? = some o → o.dst ≠ some d := fun x o hxo => by
      have := List.all_eq_true.1 hq1 o (by rw [List.mem_iff_getElem?]; exact ⟨x, by rw [Array.getElem?_toList]; exact hxo⟩)
      simpa using this
     split at hq2
     ·rename_i b' i' hv
      have hv1 := (hg.ptr d b' i').1 hv
      have hv0 := (h.ptrs hnd i (by omega)).1 hv1
      have hxs : x ≤ ops.size := Nat.le_of_lt (Array.getElem?_eq_some_iff.1 hx).1
      exact h.offB hx hp ((h.ptrs hnd x hxs).2 hv0) (by simpa using hq2)
     ·cases hq2
    ·cases hq
 have hrun : ∀ (m k : Nat), min i κ ≤ k → k + m ≤ max i κ → (S (k + m)).boxes[b]? = (S k).boxes[b]? := by
  intro m
  induction m with
  | zero => intro k _ _; rfl
  | succ m ih =>
   intro k h1 h2
   have hkle := hI.kle
   have hs : k + m < ops.size := by omega
   have := hst (k + m) (by omega) (by omega) _ (Array.getElem?_eq_getElem hs)
   rw [show k + (m + 1) = k + m + 1 by omega, this]
   exact ih k h1 (by omega)
 by_cases hle : i ≤ κ
 ·have := hrun (κ - i) i (by omega) (by omega)
  rw [show i + (κ - i) = κ by omega] at this
  exact this
 ·have := hrun (i - κ) κ (by omega) (by omega)
  rw [show κ + (i - κ) = i by omega] at this
  exact this.symm
end
variable {P : Program} {R : Type} {w0 : World} {σ0 : Nat → Nat → Prop} {r : R} {C : Ctx} {ops : Array Oper} {sI : St} {S : Nat → St} {idf : Nat → Nat}
section
variable {L : Array Bool} {a aa : Act} {w w1 : World} {ρ ρ1 : Env} {σ σ1 : Nat → Nat → Prop} {κ i : Nat} {o : Oper}
theorem kap_same (hI : Inv P C ops sI S idf w0 σ0 ρ1 σ1 w1 aa L a w ρ σ κ) (hi : ops[i]? = some o) (hl : L.getD i false = false) (hh : isHeap C o.op = false) :
  ∀ (j : Nat) p, ops[j]? = some p → isHeap C p.op = true → ((L.setIfInBounds i true).getD j false = true ↔ j < κ) := fun j p hj hp => by
 rw [not_box hi hl hI.size]
 have hne : j ≠ i := fun e => by subst e; rw [hi] at hj; obtain rfl := Option.some.inj hj; rw [hh] at hp; cases hp
 rw [if_neg hne]
 exact hI.kap j p hj hp
theorem kap_heap (hI : Inv P C ops sI S idf w0 σ0 ρ1 σ1 w1 aa L a w ρ σ κ) (h : DR C ops sI S idf) (hi : ops[i]? = some o) (hl : L.getD i false = false) (hr : ∀ e ∈ aft o, L.getD e.on false = true) (hh : isHeap C o.op = true) :
  ∀ (j : Nat) p, ops[j]? = some p → isHeap C p.op = true → ((L.setIfInBounds i true).getD j false = true ↔ j < i + 1) := fun j p hj hp => by
 rw [not_box hi hl hI.size]
 by_cases hne : j = i
 ·rw [if_pos hne]; simp; omega
 ·rw [if_neg hne]
  have hord := h.heap i j o p hi hj hne hh (.inl hp)
  rcases Nat.lt_or_gt_of_ne hne with hlt | hgt
  ·rw [if_pos hlt] at hord
   have := h.listed hI.closed i o hi hr j hord
   rw [this]; simp; omega
  ·rw [if_neg (by omega)] at hord
   constructor
   ·intro hjl
    have := h.listed hI.closed j p hj (hI.closed j p hj hjl) i hord
    rw [hl] at this; cases this
   ·intro hjl; omega
theorem later (h : DR C ops sI S idf) (hi : ops[i]? = some o) {d : Nat} (hd : o.dst = some d) : Eqv ((S (i + 1)).tmps.getD d .junk) ((S ops.size).tmps.getD d .junk) := by
 have hin : i < ops.size := (Array.getElem?_eq_some_iff.1 hi).1
 have := h.eqv (k := i + 1) (t := d) (ops.size - (i + 1)) (by omega) (fun x h1 h2 p hx ha hp => by have := h.uniq i x o p d hi hx hd hp; omega)
 rw [show i + 1 + (ops.size - (i + 1)) = ops.size by omega] at this
 exact this
theorem box_same {b : Nat} {q : Nat → Option (List AV)} (hi : ops[i]? = some o) (hl : L.getD i false = false) (hs : L.size = ops.size) (ha : isAlloc o.op = false) :
  (@ite _ (∃ (j : Nat) (p : Oper), ops[j]? = some p ∧ isAlloc p.op = true ∧ idf j = b ∧ L.getD j false = false) (Classical.propDecidable _) none (q b)) = @ite _ (∃ (j : Nat) (p : Oper), ops[j]? = some p ∧ isAlloc p.op = true ∧ idf j = b ∧ (L.setIfInBounds i true).getD j false = false) (Classical.propDecidable _) none (q b) := by
 have : (∃ (j : Nat) (p : Oper), ops[j]? = some p ∧ isAlloc p.op = true ∧ idf j = b ∧ L.getD j false = false) ↔ (∃ (j : Nat) (p : Oper), ops[j]? = some p ∧ isAlloc p.op = true ∧ idf j = b ∧ (L.setIfInBounds i true).getD j false = false) := by
  constructor
  ·rintro ⟨j, p, h1, h2, h3, h4⟩
   refine ⟨j, p, h1, h2, h3, ?_⟩
   rw [not_box hi hl hs, if_neg (fun e => by subst e; rw [hi] at h1; obtain rfl := Option.some.inj h1; rw [ha] at h2; cases h2)]
   exact h4
  ·rintro ⟨j, p, h1, h2, h3, h4⟩
   refine ⟨j, p, h1, h2, h3, ?_⟩
   rw [not_box hi hl hs] at h4
   split at h4
   ·cases h4
   ·exact h4
 by_cases hc : ∃ (j : Nat) (p : Oper), ops[j]? = some p ∧ isAlloc p.op = true ∧ idf j = b ∧ L.getD j false = false
 ·rw [if_pos hc, if_pos (this.1 hc)]
 ·rw [if_neg hc, if_neg (fun x => hc (this.2 x))]
theorem heap_all (hI : Inv P C ops sI S idf w0 σ0 ρ1 σ1 w1 aa L a w ρ σ κ) (h : DR C ops sI S idf) (hi : ops[i]? = some o) (hr : ∀ e ∈ aft o, L.getD e.on false = true) (hh : isHeap C o.op = true) (b : Nat) :
  ¬ ∃ (j : Nat) (p : Oper), ops[j]? = some p ∧ isAlloc p.op = true ∧ idf j = b ∧ L.getD j false = false := by
 rintro ⟨j, p, h1, h2, h3, h4⟩
 have := h.listed hI.closed i o hi hr j (h.heapA i j o p hi h1 hh h2)
 rw [this] at h4; cases h4
theorem ops_look {x : Tmp} (hx : Operand.tmp x ∈ o.op.operands.toList) : x ∈ o.looksAt ops := by
 unfold Oper.looksAt
 rw [List.mem_append]
 left
 rw [List.mem_filterMap]
 exact ⟨_, hx, rfl⟩
theorem Inv.operands (hI : Inv P C ops sI S idf w0 σ0 ρ1 σ1 w1 aa L a w ρ σ κ) (h : DR C ops sI S idf) (hi : ops[i]? = some o) (hl : L.getD i false = false) (hr : ∀ e ∈ aft o, L.getD e.on false = true) {s' : St} {b : Bool} (hg : Grd ops o (S i) s' b) :
  ∀ x ∈ o.op.operands.toList, RA ρ w0.heap.size σ w (ev s' x) (a.eval x) := fun x hx => by
 cases x with
 | tmp t => exact (hg.same.2.2.2 t ρ _ σ w _).1 (hI.looks h hi hl hr (ops_look hx))
 | const v => exact RA.ofV v
 | global g => trivial
 | func f => exact ⟨#[], rfl, rfl⟩
theorem draw_step (hT : TabOk P C.T) (hG : CtxOk P C) {Q : Exit → Act → World → Prop} (hI : Inv P C ops sI S idf w0 σ0 ρ1 σ1 w1 aa L a w ρ σ κ) (h : DR C ops sI S idf) (hi : ops[i]? = some o) (hl : L.getD i false = false) (hr : ∀ e ∈ aft o, L.getD e.on false = true) :
  wpOp P ops Q i (fun a' w' => ∃ ρ' σ' κ', Inv P C ops sI S idf w0 σ0 ρ1 σ1 w1 aa (L.setIfInBounds i true) a' w' ρ' σ' κ') a w := by
 have hin : i < ops.size := (Array.getElem?_eq_some_iff.1 hi).1
 unfold wpOp
 simp only [hi]
 have hst := h.stp i o hi
 generalize hs1 : S (i + 1) = s1 at hst
 cases hst with
 | alloc ha =>
  obtain ⟨e, he⟩ : ∃ e, o.op = .alloc e := by cases hh : o.op <;> rw [hh] at ha <;> first | exact ⟨_, rfl⟩ | cases ha
  have hd := h.op i o hi
  unfold drawOp at hd
  rw [he] at hd
  simp only [Bool.and_eq_true] at hd
  have hgd : o.guard = none := by simpa using hd.1
  obtain ⟨ti, z, kn⟩ := addr_pos (P := P) hT hd.2
  rw [if_pos (by unfold Region.wanted; rw [hgd])]
  left
  have hb0 : @ite _ (∃ (j : Nat) (p : Oper), ops[j]? = some p ∧ isAlloc p.op = true ∧ idf j = idf i ∧ L.getD j false = false) (Classical.propDecidable _) none ((S κ).boxes[idf i]?) = none := if_pos ⟨i, o, hi, ha, rfl, hl⟩
  obtain ⟨m1, m2⟩ := hI.heap.newBox (b0 := idf i) (cs := (C.ti e).zero) (vs := z.cells) hb0 e (by rw [kn.cells]; exact RAs.ofLeaf _)
  have hrun : (execOp a.eval o).run P w = .ok (.value (.pointer (some ⟨w.heap.size, 0, none⟩))) (w.alloc (.cells z.cells e)) := by
   have hz := kn.zeroValue w
   simp [execOp, he, Instr.alloc, hz, newVar, newRow]
  have hheap : isHeap C o.op = false := by rw [he]; rfl
  have hk0 : (S κ).boxes = (S 0).boxes := by
   have := h.stills (k := 0) κ (by have := hI.kle; omega) (fun x _ hx p hp => by
    cases hh : isHeap C p.op with
    | false => rfl
    | true =>
     exfalso
     have hxl := (hI.kap x p hp hh).2 (by omega)
     have := h.listed hI.closed x p hp (hI.closed x p hp hxl) i (h.heapA x i p o hp hi hh ha)
     rw [hl] at this; cases this)
   rw [Nat.zero_add] at this
   exact this.1
  unfold Oper.wp
  rw [hrun]
  refine ⟨_, σ, κ, hI.next h hi hl hr m1 (fun d hdd hdl => ?_) hI.kle (kap_same hI hi hl hheap) (m2.congr fun b => ?_)⟩
  ·have h0 := h.made.dst i o d (by rw [Array.getElem?_toList]; exact hi) ha hdd hdl
   have he' := h.eqv (k := 0) (t := d) ops.size (by omega) (fun x _ _ p hx hpa hp => by
    have := h.uniq i x o p d hi hx hdd hp
    subst this
    rw [hi] at hx
    obtain rfl := Option.some.inj hx
    rw [ha] at hpa; cases hpa)
   rw [Nat.zero_add, h0] at he'
   refine (he' _ _ _ _ _).1 ⟨w.heap.size, ?_, rfl⟩
   show (if idf i = idf i then _ else _) = _
   rw [if_pos rfl]
  ·by_cases hb : b = idf i
   ·rw [if_pos hb, if_neg]
    ·rw [hk0, hb]
     exact ((h.made.new i o e (by rw [Array.getElem?_toList]; exact hi) he).2).symm
    ·rintro ⟨j, p, h1, h2, h3, h4⟩
     have := h.made.inj j i p o (by rw [Array.getElem?_toList]; exact h1) (by rw [Array.getElem?_toList]; exact hi) h2 ha (by rw [h3, hb])
     subst this
     rw [not_box hi hl hI.size, if_pos rfl] at h4; cases h4
   ·rw [if_neg hb]
    have : (∃ (j : Nat) (p : Oper), ops[j]? = some p ∧ isAlloc p.op = true ∧ idf j = b ∧ L.getD j false = false) ↔ (∃ (j : Nat) (p : Oper), ops[j]? = some p ∧ isAlloc p.op = true ∧ idf j = b ∧ (L.setIfInBounds i true).getD j false = false) := by
     constructor
     ·rintro ⟨j, p, h1, h2, h3, h4⟩
      refine ⟨j, p, h1, h2, h3, ?_⟩
      rw [not_box hi hl hI.size, if_neg (fun e => hb (by rw [← h3, e]))]
      exact h4
     ·rintro ⟨j, p, h1, h2, h3, h4⟩
      refine ⟨j, p, h1, h2, h3, ?_⟩
      rw [not_box hi hl hI.size] at h4
      split at h4
      ·cases h4
      ·exact h4
    by_cases hc : ∃ (j : Nat) (p : Oper), ops[j]? = some p ∧ isAlloc p.op = true ∧ idf j = b ∧ L.getD j false = false
    ·rw [if_pos hc, if_pos (this.1 hc)]
    ·rw [if_neg hc, if_neg (fun x => hc (this.2 x))]
 | exec ha hg hfl hx =>
  rename_i s' s2 av
  rw [if_pos (hI.wants h hi hl hr hg)]
  left
  have hvals := hI.operands h hi hl hr hg
  have hgs := hg.same
  have hpr := xs_pair hx
  have hdv : ∀ {ρ' : Env} {σ' : Nat → Nat → Prop} {w' : World} {v : Value}, RA ρ' w0.heap.size σ' w' av v → ∀ d, o.dst = some d → d < sI.tmps.length → RA ρ' w0.heap.size σ' w' ((S ops.size).tmps.getD d .junk) v := fun {ρ' σ' w' v} g d hd hdl => by
   refine (later h hi hd _ _ _ _ _).1 ?_
   rw [hs1, put_getD, if_pos ⟨hd, by rw [hpr.1, hgs.2.2.1, h.len i (by omega)]; exact hdl⟩]
   exact g
  cases hheap : isHeap C o.op with
  | false =>
   have hq := quiet_of (h.op i o hi) hheap ha
   obtain rfl : s' = s2 := (hpr.2 hq).symm
   have hout : o.wp P a w (Out ρ w0.heap.size σ w (fun v => pairK v s') (av, s') o a) Q := by
    cases hld : isLoad o.op with
    | false =>
     rw [xs_xa hq hld] at hx
     exact xa_sound hT hG.g hI.heap.fits hvals hx
    | true =>
     obtain ⟨t, x, ho⟩ : ∃ t x, o.op = .load t x := by cases hh : o.op <;> rw [hh] at hld <;> first | exact ⟨_, _, rfl⟩ | cases hld
     rw [ho] at hx
     refine out_yields (s := Instr.loadAt t (a.eval x)) (by simp only [execOp, ho]) (load_yields (s := s') hT hI.heap (fun b cs β hptr hφ hb => ?_) (by simpa [xs] using hx) (hvals x (by rw [ho]; simp [Op.operands]))) hI.heap.fits
     have hat : (S κ).boxes[b]? = (S i).boxes[b]? := by
      cases hf : freeLoad C ops o with
      | false =>
       have hlb : isLoadB C ops o = true := by
        unfold isLoadB
        rw [hld, hf]; rfl
       rw [hI.loadAt h hi hl hr hlb]
      | true =>
       obtain ⟨i', e⟩ := hptr
       unfold badOp at hfl
       rw [ho] at hfl
       have hfl : (freeLoad C ops o && !(match ev s' x with | .elp .. => true | .ptr b _ => (storesFresh C ops && decide (b < nOld ops s')) || offAll C ops s' o b | _ => false)) = false := hfl
       rw [hf, e] at hfl
       have hfl : (!((storesFresh C ops && decide (b < nOld ops s')) || offAll C ops s' o b)) = false := hfl
       rw [Bool.not_eq_false', Bool.or_eq_true, Bool.and_eq_true] at hfl
       rcases hfl with hfl | hfl
       ·obtain ⟨q1, q2⟩ := h.oldB hfl.1 i (by omega)
        obtain ⟨q3, q4⟩ := h.oldB hfl.1 κ hI.kle
        have hlt := of_decide_eq_true hfl.2
        have hn : nOld ops s' = nOld ops (S 0) := by unfold nOld; rw [hgs.1, q1]
        rw [hn] at hlt
        rw [q4 b hlt, q2 b hlt]
       ·exact hI.loadOff h hi hl hr hg hfl
     have hsome := (hI.heap.phi b β hφ).1
     by_cases hc : ∃ (j : Nat) (p : Oper), ops[j]? = some p ∧ isAlloc p.op = true ∧ idf j = b ∧ L.getD j false = false
     ·rw [if_pos hc] at hsome; cases hsome
     ·rw [if_neg hc, hat, ← hgs.1]; exact hb
   refine Oper.wp_mono (fun a' w' ⟨av', v, σ', h1, h2, h3, h4⟩ => ?_) hout
   have h1 : (av', s') = (av, s') := Option.some.inj h1
   simp only [Prod.mk.injEq, and_true] at h1
   subst h1
   subst h2
   exact ⟨ρ, σ', κ, hI.next h hi hl hr (hI.heap.mono h4) (hdv h3) hI.kle (kap_same hI hi hl hheap) ((hI.heap.grow h4).congr fun b => box_same (q := fun b => (S κ).boxes[b]?) hi hl hI.size ha)⟩
  | true =>
   have hat := hI.heapAt h hi hl hr hheap
   have hH : HR P w0 σ0 ρ σ (fun b => s'.boxes[b]?) s'.alive w := by
    have := hI.heap
    rw [hat.2, ← hgs.2.1] at this
    refine this.congr fun b => ?_
    rw [if_neg (heap_all hI h hi hr hheap b), hat.1, ← hgs.1]
   refine Oper.wp_mono (fun a' w' ⟨av', s'', v, ρ', σ', h1, h2, h3, h4, h5, h6⟩ => ?_) (xs_sound (Q := Q) hT hG hvals hH hx)
   have h1 : (av', s'') = (av, s2) := Option.some.inj h1
   simp only [Prod.mk.injEq] at h1
   obtain ⟨rfl, rfl⟩ := h1
   subst h2
   refine ⟨ρ', σ', i + 1, hI.next h hi hl hr h5 (hdv h4) hin (kap_heap hI h hi hl hr hheap) ?_⟩
   rw [hs1, St.put_alive, St.put_boxes]
   refine h6.congr fun b => ?_
   rw [if_neg]
   rintro ⟨j, p, q1, q2, q3, q4⟩
   refine heap_all hI h hi hr hheap b ⟨j, p, q1, q2, q3, ?_⟩
   rw [not_box hi hl hI.size] at q4
   split at q4
   ·cases q4
   ·exact q4
 | skip ha hg =>
  rename_i s'
  rw [if_neg (by rw [hI.wants h hi hl hr hg]; exact Bool.false_ne_true)]
  have hgs := hg.same
  have hdv : ∀ d, o.dst = some d → d < sI.tmps.length → RA ρ w0.heap.size σ w ((S ops.size).tmps.getD d .junk) undef := fun d hd hdl => by
   refine (later h hi hd _ _ _ _ _).1 ?_
   rw [hs1, put_getD, if_pos ⟨hd, by rw [hgs.2.2.1, h.len i (by omega)]; exact hdl⟩]
   exact ⟨#[], rfl, rfl⟩
  cases hheap : isHeap C o.op with
  | false => exact ⟨ρ, σ, κ, hI.next h hi hl hr Mono.refl hdv hI.kle (kap_same hI hi hl hheap) (hI.heap.congr fun b => box_same (q := fun b => (S κ).boxes[b]?) hi hl hI.size ha)⟩
  | true =>
   have hat := hI.heapAt h hi hl hr hheap
   refine ⟨ρ, σ, i + 1, hI.next h hi hl hr Mono.refl hdv hin (kap_heap hI h hi hl hr hheap) ?_⟩
   rw [hs1, St.put_alive, St.put_boxes, hgs.1, hgs.2.1, ← hat.1, ← hat.2]
   exact hI.heap.congr fun b => box_same (q := fun b => (S κ).boxes[b]?) hi hl hI.size ha
end
variable {P : Program} {R : Type} {w0 : World} {σ0 : Nat → Nat → Prop} {r : R} {C : Ctx} {ops : Array Oper} {sI : St} {S : Nat → St} {idf : Nat → Nat}
theorem xops_nat (C : Ctx) (dr : Bool) (ops : Array Oper) (K : St → Option R) : ∀ (l : List Oper) (s : St), xops C dr ops l s K = (xops C dr ops l s some).bind K
 | [], s => rfl
 | o :: l, s => by
  have ih := xops_nat C dr ops K l
  have ex : ∀ s', (xsd C dr ops s' o fun v q => xops C dr ops l (q.put o.dst v) K) = (xsd C dr ops s' o fun v q => xops C dr ops l (q.put o.dst v) some).bind K := fun s' => by
   unfold xsd
   by_cases hb : dr = true ∧ badOp C ops s' o = true
   ·rw [if_pos hb, if_pos hb]; rfl
   rw [if_neg hb, if_neg hb, xs_nat, xs_nat C dr s' o.op (fun v q => xops C dr ops l (q.put o.dst v) some), obind]
   congr 1
   funext q
   exact ih _
  simp only [xops]
  split
  ·exact ih s
  ·split
   ·exact ex s
   ·split
    ·exact ih _
    ·split
     ·split
      ·split
       ·exact ex _
       ·exact ih _
      ·split
       ·exact ih _
       ·exact ex _
     ·exact ih _
     ·rfl
theorem xops_keeps : ∀ (l : List Oper) {s s1 : St} {dr : Bool}, xops C dr ops l s some = some s1 → (plainOps C l = true → (∀ o ∈ l, True) → dr = true ∨ dr = false → s1.boxes = s.boxes ∧ s1.alive = s.alive) ∧ s1.tmps.length = s.tmps.length ∧
  ∀ t, (∀ o ∈ l, o.dst ≠ some t) → Eqv (s.tmps.getD t .junk) (s1.tmps.getD t .junk)
 | [], s, s1, dr, h => by
  obtain rfl := Option.some.inj h
  exact ⟨fun _ _ _ => ⟨rfl, rfl⟩, rfl, fun t _ => Eqv.refl _⟩
 | o :: l, s, s1, dr, h => by
  have fin : ∀ {q : St}, xops C dr ops l q some = some s1 → q.tmps.length = s.tmps.length → (plainOps C (o :: l) = true → q.boxes = s.boxes ∧ q.alive = s.alive) → (∀ t, o.dst ≠ some t → Eqv (s.tmps.getD t .junk) (q.tmps.getD t .junk)) →
    (plainOps C (o :: l) = true → (∀ o' ∈ o :: l, True) → dr = true ∨ dr = false → s1.boxes = s.boxes ∧ s1.alive = s.alive) ∧ s1.tmps.length = s.tmps.length ∧ ∀ t, (∀ o' ∈ o :: l, o'.dst ≠ some t) → Eqv (s.tmps.getD t .junk) (s1.tmps.getD t .junk) := by
   intro q hq h1 h2 h3
   obtain ⟨g1, g2, g3⟩ := xops_keeps l hq
   refine ⟨fun hp _ hd => ?_, g2.trans h1, fun t ht => (h3 t (ht o (List.mem_cons_self ..))).trans (g3 t fun o' ho' => ht o' (List.mem_cons_of_mem _ ho'))⟩
   have hp' : plainOps C l = true := by unfold plainOps at hp ⊢; rw [List.all_cons, Bool.and_eq_true] at hp; exact hp.2
   have := g1 hp' (fun _ _ => trivial) hd
   have h2 := h2 hp
   exact ⟨this.1.trans h2.1, this.2.trans h2.2⟩
  have skip : ∀ {s' : St}, s'.boxes = s.boxes → s'.alive = s.alive → s'.tmps.length = s.tmps.length → (∀ t, Eqv (s.tmps.getD t .junk) (s'.tmps.getD t .junk)) → xops C dr ops l (s'.put o.dst (.tup [])) some = some s1 →
    (plainOps C (o :: l) = true → (∀ o' ∈ o :: l, True) → dr = true ∨ dr = false → s1.boxes = s.boxes ∧ s1.alive = s.alive) ∧ s1.tmps.length = s.tmps.length ∧ ∀ t, (∀ o' ∈ o :: l, o'.dst ≠ some t) → Eqv (s.tmps.getD t .junk) (s1.tmps.getD t .junk) := by
   intro s' e1 e2 e3 e4 hq
   refine fin hq (by rw [put_len, e3]) (fun _ => ⟨by rw [St.put_boxes, e1], by rw [St.put_alive, e2]⟩) fun t ht => ?_
   rw [put_getD, if_neg (fun hh => ht hh.1)]; exact e4 t
  have ex : ∀ {s' : St}, s'.boxes = s.boxes → s'.alive = s.alive → s'.tmps.length = s.tmps.length → (∀ t, Eqv (s.tmps.getD t .junk) (s'.tmps.getD t .junk)) → (xsd C dr ops s' o fun v q => xops C dr ops l (q.put o.dst v) some) = some s1 →
    (plainOps C (o :: l) = true → (∀ o' ∈ o :: l, True) → dr = true ∨ dr = false → s1.boxes = s.boxes ∧ s1.alive = s.alive) ∧ s1.tmps.length = s.tmps.length ∧ ∀ t, (∀ o' ∈ o :: l, o'.dst ≠ some t) → Eqv (s.tmps.getD t .junk) (s1.tmps.getD t .junk) := by
   intro s' e1 e2 e3 e4 hq
   unfold xsd at hq
   by_cases hb : dr = true ∧ badOp C ops s' o = true
   ·rw [if_pos hb] at hq; cases hq
   rw [if_neg hb] at hq
   rw [xs_nat] at hq
   obtain ⟨⟨av, s2⟩, h2, h3⟩ := Option.bind_eq_some_iff.1 hq
   have hpr : s2.tmps = s'.tmps ∧ (plainOps C (o :: l) = true → s2.boxes = s'.boxes ∧ s2.alive = s'.alive) := by
    have hpp := xs_pair' h2
    refine ⟨hpp.1, fun hp => ?_⟩
    have hpo : quiet C o.op = true ∧ isBuild C o.op = false := by
     unfold plainOps at hp
     rw [List.all_cons, Bool.and_eq_true] at hp
     have h0 := hp.1
     cases ho : o.op with
     | call c =>
      rw [ho] at h0
      cases hc : c with
      | mk callee args tys =>
       rw [hc] at h0
       cases callee with
       | builtin b => cases b <;> first | exact ⟨rfl, rfl⟩ | cases h0
       | value f =>
        refine ⟨?_, by simpa [isBuild] using h0⟩
        cases f with
        | func g =>
         have h1 : (C.S.find? (fun c => c.id == g)).isSome = false := by simpa [mayTurn] using h0
         show (!(C.S.find? (fun c => c.id == g)).isSome) = true
         rw [h1]; rfl
        | _ => rfl
       | _ => exact ⟨rfl, rfl⟩
     | _ => rw [ho] at h0; first | exact ⟨rfl, rfl⟩ | cases h0
    have := hpp.2 hpo.1 (fun _ => hpo.2)
    subst this
    exact ⟨rfl, rfl⟩
   refine fin h3 (by rw [put_len, hpr.1, e3]) (fun hp => ⟨by rw [St.put_boxes, (hpr.2 hp).1, e1], by rw [St.put_alive, (hpr.2 hp).2, e2]⟩) fun t ht => ?_
   rw [put_getD, if_neg (fun hh => ht hh.1)]
   show Eqv _ (s2.tmps.getD t .junk)
   rw [hpr.1]; exact e4 t
  simp only [xops] at h
  split at h
  ·exact fin h rfl (fun _ => ⟨rfl, rfl⟩) (fun t _ => Eqv.refl _)
  ·split at h
   ·exact ex rfl rfl rfl (fun t => Eqv.refl _) h
   ·rename_i j w hg
    split at h
    ·exact skip rfl rfl rfl (fun t => Eqv.refl _) h
    ·rename_i t ht
     split at h
     ·rename_i p d hp
      have hT : p → ∀ u, Eqv (s.tmps.getD u .junk) ((s.put (some t) (.bool True inferInstance)).tmps.getD u .junk) := fun hpp u => by
       rw [put_getD]; split
       ·rename_i e; have := Option.some.inj e.1; subst this; rw [hp]; exact eqv_true hpp
       ·exact Eqv.refl _
      have hF : ¬ p → ∀ u, Eqv (s.tmps.getD u .junk) ((s.put (some t) (.bool False inferInstance)).tmps.getD u .junk) := fun hpp u => by
       rw [put_getD]; split
       ·rename_i e; have := Option.some.inj e.1; subst this; rw [hp]; exact eqv_false hpp
       ·exact Eqv.refl _
      split at h
      ·rename_i hpp
       split at h
       ·exact ex (St.put_boxes ..) (St.put_alive ..) (put_len ..) (hT hpp) h
       ·exact skip (St.put_boxes ..) (St.put_alive ..) (put_len ..) (hT hpp) h
      ·rename_i hpp
       split at h
       ·exact skip (St.put_boxes ..) (St.put_alive ..) (put_len ..) (hF hpp) h
       ·exact ex (St.put_boxes ..) (St.put_alive ..) (put_len ..) (hF hpp) h
     ·exact skip rfl rfl rfl (fun t => Eqv.refl _) h
     ·cases h
variable {P : Program} {R : Type} {w0 : World} {σ0 : Nat → Nat → Prop} {r : R} {C : Ctx} {ops : Array Oper} {sI : St} {S : Nat → St} {idf : Nat → Nat}
def cnt (f : Nat → Bool) : Nat → Nat
 | 0 => 0
 | n + 1 => cnt f n + (if f n then 0 else 1)
theorem cnt_set {f g : Nat → Bool} {i : Nat} (hf : f i = false) (hg : ∀ j, g j = if j = i then true else f j) : ∀ n, cnt g n + (if i < n then 1 else 0) = cnt f n
 | 0 => by simp [cnt]
 | n + 1 => by
  have ih := cnt_set hf hg n
  simp only [cnt, hg n]
  by_cases h : n = i
  ·subst h
   rw [if_neg (Nat.lt_irrefl _)] at ih
   rw [if_pos rfl, hf]
   simp at ih ⊢; omega
  ·rw [if_neg h]
   have e1 : (if i < n + 1 then 1 else 0 : Nat) = (if i < n then 1 else 0) := by split <;> split <;> omega
   rw [e1]
   generalize (if f n = true then 0 else 1 : Nat) = z
   generalize (if i < n then 1 else 0 : Nat) = y at ih ⊢
   omega
theorem ready_mem {L : Array Bool} {i : Nat} (hs : L.size = ops.size) (h : i ∈ Region.ready .any ops L) (hed : ∀ (i : Nat) o, ops[i]? = some o → ∀ e ∈ aft o, Region.binds .any e = true) :
  ∃ o, ops[i]? = some o ∧ L.getD i false = false ∧ ∀ e ∈ aft o, L.getD e.on false = true := by
 unfold Region.ready at h
 rw [List.mem_filter] at h
 obtain ⟨h1, h2⟩ := h
 have hi : i < ops.size := List.mem_range.1 h1
 have ho := Array.getElem?_eq_getElem hi
 refine ⟨_, ho, ?_, fun e he => ?_⟩
 ·have hi' : i < L.size := by rw [hs]; exact hi
  simp only [Bool.and_eq_true, Bool.not_eq_true'] at h2
  have := h2.1
  simp only [Array.getD, hi', dif_pos] at this ⊢
  exact this
 ·rw [ho] at h2
  simp only [Option.map_some, Option.getD_some, Bool.and_eq_true] at h2
  have h3 := h2.2
  rw [← Array.all_toList, List.all_eq_true] at h3
  have := h3 e (List.mem_filter.1 he).1
  rw [show Region.binds .any e = true from (List.mem_filter.1 he).2] at this
  simpa using this
theorem Inv.rel {L : Array Bool} {a aa : Act} {w w1 : World} {ρ ρ1 : Env} {σ σ1 : Nat → Nat → Prop} {κ : Nat} (hI : Inv P C ops sI S idf w0 σ0 ρ1 σ1 w1 aa L a w ρ σ κ) (h : DR C ops sI S idf) (hall : ∀ (i : Nat), i < ops.size → L.getD i false = true) :
  Rel P w0 σ0 ρ σ (S ops.size) a w := by
 refine ⟨RAs.mk ?_ fun t x v hx hv => ?_, ?_⟩
 ·rw [Array.length_toList, hI.tsz, h.len ops.size (Nat.le_refl _)]
 ·have := hI.tmp t fun i o hi _ => hall i (Array.getElem?_eq_some_iff.1 hi).1
  rw [getD_list, List.getD_eq_getElem?_getD, List.getD_eq_getElem?_getD, hx, hv] at this
  exact this
 ·have hst := h.stills (k := κ) (ops.size - κ) (by have := hI.kle; omega) (fun x h1 h2 p hp => by
   cases hh : isHeap C p.op with
   | false => rfl
   | true =>
    exfalso
    have := (hI.kap x p hp hh).1 (hall x (Array.getElem?_eq_some_iff.1 hp).1)
    omega)
  rw [show κ + (ops.size - κ) = ops.size by have := hI.kle; omega] at hst
  rw [hst.2]
  refine hI.heap.congr fun b => ?_
  rw [hst.1, if_neg]
  rintro ⟨j, p, q1, _, _, q4⟩
  rw [hall j (Array.getElem?_eq_some_iff.1 q1).1] at q4; cases q4
theorem draw_all (hT : TabOk P C.T) (hG : CtxOk P C) (h : DR C ops sI S idf) {aa : Act} {w1 : World} {ρ1 : Env} {σ1 : Nat → Nat → Prop} :
  ∀ (fuel : Nat) {L : Array Bool} {a : Act} {w : World} {ρ : Env} {σ : Nat → Nat → Prop} {κ : Nat}, Inv P C ops sI S idf w0 σ0 ρ1 σ1 w1 aa L a w ρ σ κ → cnt (fun i => L.getD i false) ops.size ≤ fuel →
   wpAny P .any ops (onlyNormal (ROut P w0 σ0 ρ1 σ1 w1 aa some (S ops.size))) fuel L a w := by
 have hed : ∀ (i : Nat) o, ops[i]? = some o → ∀ e ∈ aft o, Region.binds .any e = true := fun i o hi e he => (h.edge i o hi e he).1
 have done : ∀ {L : Array Bool} {a : Act} {w : World} {ρ : Env} {σ : Nat → Nat → Prop} {κ : Nat}, Inv P C ops sI S idf w0 σ0 ρ1 σ1 w1 aa L a w ρ σ κ → Region.ready .any ops L = [] → onlyNormal (ROut P w0 σ0 ρ1 σ1 w1 aa some (S ops.size)) .normal a w := fun hI hr =>
  ⟨_, _, _, rfl, hI.defers, hI.mono, hI.rel h (hI.ready h hr)⟩
 intro fuel
 induction fuel with
 | zero =>
  intro L a w ρ σ κ hI hc
  have hr : Region.ready .any ops L = [] := by
   cases hr : Region.ready .any ops L with
   | nil => rfl
   | cons i rs =>
    obtain ⟨o, hi, hl, _⟩ := ready_mem hI.size (show i ∈ Region.ready .any ops L by rw [hr]; exact List.mem_cons_self ..) hed
    have := cnt_set (f := fun i => L.getD i false) (g := fun j => if j = i then true else L.getD j false) hl (fun j => rfl) ops.size
    rw [if_pos (Array.getElem?_eq_some_iff.1 hi).1] at this
    omega
  exact ⟨hr, done hI hr⟩
 | succ fuel ih =>
  intro L a w ρ σ κ hI hc
  refine ⟨fun hr => done hI hr, fun i hir => ?_⟩
  obtain ⟨o, hi, hl, hr⟩ := ready_mem hI.size hir hed
  refine wpOp_mono (fun a' w' ⟨ρ', σ', κ', hI'⟩ => ih hI' ?_) (draw_step hT hG hI h hi hl hr)
  have := cnt_set (f := fun i => L.getD i false) (g := fun j => (L.setIfInBounds i true).getD j false) hl (fun j => not_box hi hl hI.size j) ops.size
  rw [if_pos (Array.getElem?_eq_some_iff.1 hi).1] at this
  omega
theorem draw_region (hT : TabOk P C.T) (hG : CtxOk P C) (hm : P.follows .mixedOrders = true) {id : Nat} {s s1 : St} {a : Act} {w : World} {ρ : Env} {σ : Nat → Nat → Prop} (hd : drawOk C ops.toList = true)
  (hx : xops C true ops ops.toList (preAlloc C ops.toList s) some = some s1) (hr : Rel P w0 σ0 ρ σ s a w) : (Code.region id ops true).wp P (onlyNormal (ROut P w0 σ0 ρ σ w a some s1)) a w := by
 obtain ⟨S, e0, hst, hk⟩ := trace ops.toList hx
 obtain ⟨idf, hdr⟩ := DR.of (sI := s) hd hst e0
 rw [Array.length_toList] at hk
 have hk := Option.some.inj hk
 have hg : Grow σ w σ w.drew := ⟨⟨rfl, rfl, rfl, Nat.le_refl _, fun _ _ => rfl⟩, fun _ _ h => h, fun _ _ h => .inl h, hr.heap.fits⟩
 have hH := hr.heap.grow hg
 have hmono := hr.heap.mono hg
 have hI : Inv P C ops s S idf w0 σ0 ρ σ w a (Array.replicate ops.size false) a w.drew ρ σ 0 := by
  have hrep : ∀ j, (Array.replicate ops.size false).getD j false = false := fun j => by
   rw [Array.getD_eq_getD_getElem?, Array.getElem?_replicate]; split <;> rfl
  refine ⟨by simp, fun i o hi hl => (by rw [hrep] at hl; (cases hl)), Nat.zero_le _, fun i o _ _ => ⟨fun hl => by rw [hrep] at hl; (cases hl), fun hl => absurd hl (Nat.not_lt_zero _)⟩, ?_, fun t ht => ?_, fun t _ => (by rw [getD_list]; exact (RAs.mono hmono _ hr.tmps).getD t), ?_, rfl, hmono⟩
  ·rw [← Array.length_toList, hr.tmps.length]
  ·have hno : ∀ (i : Nat) o, ops[i]? = some o → o.dst ≠ some t := fun i o hi hdt => by have := ht i o hi hdt; rw [hrep] at this; cases this
   have he := hdr.eqv (k := 0) (t := t) ops.size (by omega) (fun x _ _ p hp _ => hno x p hp)
   rw [Nat.zero_add] at he
   rw [hdr.made.keep t fun i o hi _ => hno i o (by rw [← Array.getElem?_toList]; exact hi)] at he
   refine (he _ _ _ _ _).1 ?_
   rw [getD_list]
   exact (RAs.mono hmono _ hr.tmps).getD t
  ·rw [hdr.made.alive]
   refine hH.congr fun b => ?_
   by_cases hb : b < s.boxes.length
   ·rw [if_neg, hdr.made.old b hb]
    rintro ⟨j, p, q1, q2, q3, q4⟩
    obtain ⟨e, he⟩ : ∃ e, p.op = .alloc e := by cases hh : p.op <;> rw [hh] at q2 <;> first | exact ⟨_, rfl⟩ | cases q2
    have := (hdr.made.new j p e (by rw [Array.getElem?_toList]; exact q1) he).1
    omega
   ·rw [List.getElem?_eq_none (by omega)]
    by_cases hb2 : b < (S 0).boxes.length
    ·obtain ⟨j, p, q1, q2, q3⟩ := hdr.made.all b (by omega) hb2
     rw [if_pos ⟨j, p, by rw [← Array.getElem?_toList]; exact q1, q2, q3, hrep j⟩]
    ·split
     ·rfl
     ·rw [List.getElem?_eq_none (by omega)]
 refine wp_region_any hm ?_
 rw [← hk]
 refine draw_all hT hG hdr ops.size hI ?_
 have : ∀ n (f : Nat → Bool), cnt f n ≤ n := fun n f => by
  induction n with
  | zero => exact Nat.le_refl _
  | succ n ih => simp only [cnt]; split <;> omega
 exact this _ _
theorem plain_region (hT : TabOk P C.T) (hG : CtxOk P C) {id : Nat} {s s1 : St} {a : Act} {w : World} {ρ : Env} {σ : Nat → Nat → Prop}
  (hx : xops C false ops ops.toList s some = some s1) (hr : Rel P w0 σ0 ρ σ s a w) : (Code.region id ops false).wp P (onlyNormal (ROut P w0 σ0 ρ σ w a some s1)) a w :=
 wp_region_list (xops_sound hT hG ops.toList hx hr rfl rfl Mono.refl)
theorem outOf_sound {a : Act} {w : World} {ρ : Env} {σ : Nat → Nat → Prop} {s1 : St} (h1 : Rel P w0 σ0 ρ σ s1 a w) : ∀ {l : List (Nat × Ty)} {y : El (outTy l)} {s : St}, outOf s1 l = some y → Rel P w0 σ0 ρ σ s a w → Rel P w0 σ0 ρ σ (outPut s l y) a w
 | [], y, s, h, hr => hr
 | [q], y, s, h, hr => by
  simp only [outOf] at h
  split at h
  ·rename_i x hx
   obtain rfl := Option.some.inj h
   refine hr.refine fun v hv => ?_
   have g := h1.tmps.getD q.1
   rw [List.getD_eq_getElem?_getD (l := a.tmps.toList), hv] at g
   exact R1.ra (s := .v q.2) (dec1_sound (s := .v q.2) (by simp only [dec1, hx]) g)
  ·cases h
 | q :: q' :: l, y, s, h, hr => by
  simp only [outOf] at h
  split at h
  ·rename_i x z hx hz
   obtain rfl := Option.some.inj h
   refine outOf_sound (l := q' :: l) h1 hz (hr.refine fun v hv => ?_)
   have g := h1.tmps.getD q.1
   rw [List.getD_eq_getElem?_getD (l := a.tmps.toList), hv] at g
   exact R1.ra (s := .v q.2) (dec1_sound (s := .v q.2) (by simp only [dec1, hx]) g)
  ·cases h
theorem letGo_getD : ∀ (l : List Oper) (s : St) (t : Nat), (letGo s l).tmps.length = s.tmps.length ∧ (letGo s l).boxes = s.boxes ∧ (letGo s l).alive = s.alive ∧
  ((letGo s l).tmps.getD t .junk = .junk ∨ ((letGo s l).tmps.getD t .junk = s.tmps.getD t .junk ∧ ∀ o ∈ l, o.dst ≠ some t ∨ s.tmps.length ≤ t))
 | [], s, t => ⟨rfl, rfl, rfl, .inr ⟨rfl, fun o ho => by cases ho⟩⟩
 | o :: l, s, t => by
  obtain ⟨h1, h2, h3, h4⟩ := letGo_getD l (s.put o.dst .junk) t
  refine ⟨h1.trans (put_len ..), h2.trans (St.put_boxes ..), h3.trans (St.put_alive ..), ?_⟩
  rcases h4 with h4 | ⟨h4, h5⟩
  ·exact .inl h4
  ·rw [put_getD] at h4
   rw [put_len] at h5
   by_cases hc : o.dst = some t ∧ t < s.tmps.length
   ·rw [if_pos hc] at h4; exact .inl h4
   ·rw [if_neg hc] at h4
    refine .inr ⟨h4, fun o' ho' => ?_⟩
    rcases List.mem_cons.1 ho' with rfl | ho'
    ·by_cases hd : o'.dst = some t
     ·exact .inr (Nat.le_of_not_lt fun hlt => hc ⟨hd, hlt⟩)
     ·exact .inl hd
    ·exact h5 o' ho'
theorem xregion_sound (hT : TabOk P C.T) (hG : CtxOk P C) (hm : P.follows .mixedOrders = true) {id : Nat} {dr : Bool} {s : St} {a : Act} {w : World} {ρ : Env} {σ : Nat → Nat → Prop} {K : St → Option R}
  (hx : xregion C id ops dr s K = some r) (hr : Rel P w0 σ0 ρ σ s a w) : (Code.region id ops dr).wp P (onlyNormal (ROut P w0 σ0 ρ σ w a K r)) a w := by
 have base : ∀ {s1 : St}, xops C dr ops ops.toList (if dr then preAlloc C ops.toList s else s) some = some s1 → (dr = true → drawOk C ops.toList = true) → (Code.region id ops dr).wp P (onlyNormal (ROut P w0 σ0 ρ σ w a some s1)) a w := by
  intro s1 h1 h2
  cases dr with
  | true => exact draw_region hT hG hm (h2 rfl) h1 hr
  | false => exact plain_region hT hG h1 hr
 have fin : (xregion.xregionIn C id ops dr K (if dr then preAlloc C ops.toList s else s)) = some r → (dr = true → drawOk C ops.toList = true) → (Code.region id ops dr).wp P (onlyNormal (ROut P w0 σ0 ρ σ w a K r)) a w := by
  intro h1 h2
  unfold xregion.xregionIn at h1
  split at h1
  ·rename_i q hq
   split at h1
   ·rename_i hp
    obtain ⟨y, hy, hk⟩ := Option.bind_eq_some_iff.1 h1
    rw [xops_nat] at hy
    obtain ⟨s1, hs1, hy⟩ := Option.bind_eq_some_iff.1 hy
    refine Code.wp_mono (fun e a' w' hQ => ?_) (base hs1 h2)
    cases e with
    | normal =>
     obtain ⟨s', ρ', σ', e1, e2, e3, e4⟩ := hQ
     obtain rfl := Option.some.inj e1
     have hkeep := xops_keeps ops.toList hs1
     have hpre : (if dr then preAlloc C ops.toList s else s) = s := by
      split
      ·have : ∀ (l : List Oper) (s : St), plainOps C l = true → preAlloc C l s = s := by
        intro l
        induction l with
        | nil => intro s _; rfl
        | cons o l ih =>
         intro s hp
         unfold plainOps at hp
         rw [List.all_cons, Bool.and_eq_true] at hp
         rw [preAlloc_other l s (by cases ho : o.op <;> first | rfl | (have := hp.1; rw [ho] at this; cases this))]
         exact ih s hp.2
       exact this _ _ hp
      ·rfl
     rw [hpre] at hkeep hk
     refine ⟨_, ρ', σ', hk, e2, e3, outOf_sound e4 hy ⟨RAs.mk ?_ fun t x v hx hv => ?_, ?_⟩⟩
     ·rw [e4.tmps.length, hkeep.2.1, (letGo_getD ops.toList s 0).1]
     ·have hg := (letGo_getD ops.toList s t).2.2.2
      have hx' : (letGo s ops.toList).tmps.getD t .junk = x := by rw [List.getD_eq_getElem?_getD, hx]; rfl
      rw [hx'] at hg
      rcases hg with hg | ⟨hg, hno⟩
      ·rw [hg]; trivial
      ·rw [hg]
       have htl : t < s.tmps.length := by
        have := (List.getElem?_eq_some_iff.1 hx).1
        rwa [(letGo_getD ops.toList s 0).1] at this
       have he := hkeep.2.2 t fun o ho => (hno o ho).resolve_right (by omega)
       refine RA.of_eqv he ?_
       have := e4.tmps.getD t
       rw [List.getD_eq_getElem?_getD (l := a'.tmps.toList), hv] at this
       exact this
     ·rw [(letGo_getD ops.toList s 0).2.1, (letGo_getD ops.toList s 0).2.2.1]
      have hb := hkeep.1 hp (fun _ _ => trivial) (by cases dr <;> simp)
      have := e4.heap
      rw [hb.1, hb.2] at this
      exact this
    | _ => exact hQ
   ·cases h1
  ·rw [xops_nat] at h1
   obtain ⟨s1, hs1, hk⟩ := Option.bind_eq_some_iff.1 h1
   refine Code.wp_mono (fun e a' w' hQ => ?_) (base hs1 h2)
   cases e with
   | normal =>
    obtain ⟨s', ρ', σ', e1, e2, e3, e4⟩ := hQ
    obtain rfl := Option.some.inj e1
    exact ⟨_, ρ', σ', hk, e2, e3, e4⟩
   | _ => exact hQ
 unfold xregion at hx
 split at hx
 ·rename_i hdr
  split at hx
  ·rename_i hd
   exact fin (by rw [if_pos hdr]; exact hx) (fun _ => hd)
  ·cases hx
 ·rename_i hdr
  exact fin (by rw [if_neg hdr]; exact hx) (fun h => absurd h hdr)
open Go
def tab : List TI := [
⟨.other, 0, 0, [], none, false⟩,
⟨.cell, 1, 8, [.junk], none, false⟩,
⟨.int .i64, 1, 8, [.int .i64 0], some (.int .i64), false⟩,
⟨.int .i64, 1, 8, [.int .i64 0], some (.int .i64), false⟩,
⟨.bool, 1, 1, [.b false], some .bool, true⟩,
⟨.int .u8, 1, 1, [.int .u8 0], some (.int .u8), false⟩,
⟨.int .u8, 1, 1, [.int .u8 0], some (.int .u8), false⟩,
⟨.st [(2, 0), (3, 1), (4, 2), (6, 3)], 4, 24, [.int .i64 0, .int .i64 0, .b false, .int .u8 0], some (.pair (.int .i64) (.pair (.int .i64) (.pair .bool (.int .u8)))), true⟩,
⟨.st [(2, 0), (3, 1), (4, 2), (6, 3)], 4, 24, [.int .i64 0, .int .i64 0, .b false, .int .u8 0], some (.pair (.int .i64) (.pair (.int .i64) (.pair .bool (.int .u8)))), false⟩,
⟨.str, 1, 16, [.str ⟨#[]⟩], some .str, false⟩,
⟨.str, 1, 16, [.str ⟨#[]⟩], some .str, false⟩,
⟨.str, 1, 16, [.str ⟨#[]⟩], some .str, false⟩,
⟨.int .u64, 1, 8, [.int .u64 0], some (.int .u64), false⟩,
⟨.st [(9, 0), (12, 1)], 2, 24, [.str ⟨#[]⟩, .int .u64 0], some (.pair .str (.int .u64)), false⟩,
⟨.st [(9, 0), (12, 1)], 2, 24, [.str ⟨#[]⟩, .int .u64 0], some (.pair .str (.int .u64)), false⟩,
⟨.cell, 1, 8, [.nilp], none, false⟩,
⟨.cell, 1, 8, [.nilp], none, false⟩,
⟨.cell, 1, 8, [.nilp], none, false⟩,
⟨.st [(17, 0)], 1, 8, [.nilp], none, false⟩,
⟨.st [(17, 0)], 1, 8, [.nilp], none, false⟩,
⟨.cell, 1, 16, [.junk], none, false⟩,
⟨.int .i32, 1, 4, [.int .i32 0], some (.int .i32), false⟩,
⟨.sl 107, 1, 24, [.nilsl], some (.sl (.pair (.int .i64) (.pair (.int .i64) (.pair (.int .i64) (.pair (.int .i64) (.int .i64)))))), false⟩,
⟨.st [(3, 0), (3, 1), (22, 2)], 3, 40, [.int .i64 0, .int .i64 0, .nilsl], some (.pair (.int .i64) (.pair (.int .i64) (.sl (.pair (.int .i64) (.pair (.int .i64) (.pair (.int .i64) (.pair (.int .i64) (.int .i64)))))))), false⟩,
⟨.st [(3, 0), (3, 1), (22, 2)], 3, 40, [.int .i64 0, .int .i64 0, .nilsl], some (.pair (.int .i64) (.pair (.int .i64) (.sl (.pair (.int .i64) (.pair (.int .i64) (.pair (.int .i64) (.pair (.int .i64) (.int .i64)))))))), false⟩,
⟨.sl 49, 1, 24, [.nilsl], some (.sl (.pair (.int .i64) .str)), false⟩,
⟨.st [(9, 0), (25, 1)], 2, 40, [.str ⟨#[]⟩, .nilsl], some (.pair .str (.sl (.pair (.int .i64) .str))), false⟩,
⟨.st [(9, 0), (25, 1)], 2, 40, [.str ⟨#[]⟩, .nilsl], some (.pair .str (.sl (.pair (.int .i64) .str))), false⟩,
⟨.cell, 1, 8, [.junk], none, false⟩,
⟨.cell, 1, 8, [.junk], none, false⟩,
⟨.cell, 1, 8, [.junk], none, false⟩,
⟨.int .i64, 1, 8, [.int .i64 0], some (.int .i64), false⟩,
⟨.st [(31, 0), (3, 1)], 2, 16, [.int .i64 0, .int .i64 0], some (.pair (.int .i64) (.int .i64)), true⟩,
⟨.st [(31, 0), (3, 1)], 2, 16, [.int .i64 0, .int .i64 0], some (.pair (.int .i64) (.int .i64)), true⟩,
⟨.other, 0, 0, [], none, false⟩,
⟨.cell, 1, 8, [.junk], none, false⟩,
⟨.cell, 1, 8, [.junk], none, false⟩,
⟨.other, 0, 0, [], none, false⟩,
⟨.cell, 1, 8, [.junk], none, false⟩,
⟨.cell, 1, 8, [.junk], none, false⟩,
⟨.cell, 1, 8, [.junk], none, false⟩,
⟨.other, 0, 0, [], none, false⟩,
⟨.cell, 1, 8, [.junk], none, false⟩,
⟨.int .u64, 1, 8, [.int .u64 0], some (.int .u64), false⟩,
⟨.st [(43, 0), (43, 1)], 2, 16, [.int .u64 0, .int .u64 0], some (.pair (.int .u64) (.int .u64)), true⟩,
⟨.st [(43, 0), (43, 1)], 2, 16, [.int .u64 0, .int .u64 0], some (.pair (.int .u64) (.int .u64)), true⟩,
⟨.other, 0, 0, [], none, false⟩,
⟨.cell, 1, 8, [.junk], none, false⟩,
⟨.st [(3, 0), (9, 1)], 2, 24, [.int .i64 0, .str ⟨#[]⟩], some (.pair (.int .i64) .str), true⟩,
⟨.st [(3, 0), (9, 1)], 2, 24, [.int .i64 0, .str ⟨#[]⟩], some (.pair (.int .i64) .str), true⟩,
⟨.cell, 1, 8, [.junk], none, false⟩,
⟨.cell, 1, 8, [.junk], none, false⟩,
⟨.arr 2 43, 2, 16, [.int .u64 0, .int .u64 0], some (.pair (.int .u64) (.int .u64)), false⟩,
⟨.cell, 1, 8, [.junk], none, false⟩,
⟨.cell, 1, 8, [.junk], none, false⟩,
⟨.cell, 1, 8, [.junk], none, false⟩,
⟨.cell, 1, 8, [.junk], none, false⟩,
⟨.cell, 1, 8, [.junk], none, false⟩,
⟨.sl 132, 1, 24, [.nilsl], some (.sl (.pair .str .str)), false⟩,
⟨.sl 135, 1, 24, [.nilsl], some (.sl (.pair (.int .i64) (.pair (.int .i64) (.pair (.int .i64) (.pair .str (.sl (.pair .str .str))))))), false⟩,
⟨.st [(58, 0), (59, 1)], 2, 48, [.nilsl, .nilsl], some (.pair (.sl (.pair .str .str)) (.sl (.pair (.int .i64) (.pair (.int .i64) (.pair (.int .i64) (.pair .str (.sl (.pair .str .str)))))))), false⟩,
⟨.st [(58, 0), (59, 1)], 2, 48, [.nilsl, .nilsl], some (.pair (.sl (.pair .str .str)) (.sl (.pair (.int .i64) (.pair (.int .i64) (.pair (.int .i64) (.pair .str (.sl (.pair .str .str)))))))), false⟩,
⟨.arr 2 24, 6, 80, [.int .i64 0, .int .i64 0, .nilsl, .int .i64 0, .int .i64 0, .nilsl], some (.pair (.pair (.int .i64) (.pair (.int .i64) (.sl (.pair (.int .i64) (.pair (.int .i64) (.pair (.int .i64) (.pair (.int .i64) (.int .i64)))))))) (.pair (.int .i64) (.pair (.int .i64) (.sl (.pair (.int .i64) (.pair (.int .i64) (.pair (.int .i64) (.pair (.int .i64) (.int .i64))))))))), false⟩,
⟨.cell, 1, 8, [.junk], none, false⟩,
⟨.cell, 1, 8, [.junk], none, false⟩,
⟨.cell, 1, 8, [.junk], none, false⟩,
⟨.cell, 1, 8, [.junk], none, false⟩,
⟨.cell, 1, 8, [.junk], none, false⟩,
⟨.sl 3, 1, 24, [.nilsl], some (.sl (.int .i64)), false⟩,
⟨.sl 204, 1, 24, [.nilsl], some (.sl (.pair (.int .i64) .str)), false⟩,
⟨.st [(24, 0), (61, 3), (68, 5), (69, 6)], 7, 136, [.int .i64 0, .int .i64 0, .nilsl, .nilsl, .nilsl, .nilsl, .nilsl], some (.pair (.pair (.int .i64) (.pair (.int .i64) (.sl (.pair (.int .i64) (.pair (.int .i64) (.pair (.int .i64) (.pair (.int .i64) (.int .i64)))))))) (.pair (.pair (.sl (.pair .str .str)) (.sl (.pair (.int .i64) (.pair (.int .i64) (.pair (.int .i64) (.pair .str (.sl (.pair .str .str)))))))) (.pair (.sl (.int .i64)) (.sl (.pair (.int .i64) .str))))), false⟩,
⟨.st [(24, 0), (61, 3), (68, 5), (69, 6)], 7, 136, [.int .i64 0, .int .i64 0, .nilsl, .nilsl, .nilsl, .nilsl, .nilsl], some (.pair (.pair (.int .i64) (.pair (.int .i64) (.sl (.pair (.int .i64) (.pair (.int .i64) (.pair (.int .i64) (.pair (.int .i64) (.int .i64)))))))) (.pair (.pair (.sl (.pair .str .str)) (.sl (.pair (.int .i64) (.pair (.int .i64) (.pair (.int .i64) (.pair .str (.sl (.pair .str .str)))))))) (.pair (.sl (.int .i64)) (.sl (.pair (.int .i64) .str))))), false⟩,
⟨.arr 2 71, 14, 272, [.int .i64 0, .int .i64 0, .nilsl, .nilsl, .nilsl, .nilsl, .nilsl, .int .i64 0, .int .i64 0, .nilsl, .nilsl, .nilsl, .nilsl, .nilsl], some (.pair (.pair (.pair (.int .i64) (.pair (.int .i64) (.sl (.pair (.int .i64) (.pair (.int .i64) (.pair (.int .i64) (.pair (.int .i64) (.int .i64)))))))) (.pair (.pair (.sl (.pair .str .str)) (.sl (.pair (.int .i64) (.pair (.int .i64) (.pair (.int .i64) (.pair .str (.sl (.pair .str .str)))))))) (.pair (.sl (.int .i64)) (.sl (.pair (.int .i64) .str))))) (.pair (.pair (.int .i64) (.pair (.int .i64) (.sl (.pair (.int .i64) (.pair (.int .i64) (.pair (.int .i64) (.pair (.int .i64) (.int .i64)))))))) (.pair (.pair (.sl (.pair .str .str)) (.sl (.pair (.int .i64) (.pair (.int .i64) (.pair (.int .i64) (.pair .str (.sl (.pair .str .str)))))))) (.pair (.sl (.int .i64)) (.sl (.pair (.int .i64) .str)))))), false⟩,
⟨.st [(72, 0), (3, 14)], 15, 280, [.int .i64 0, .int .i64 0, .nilsl, .nilsl, .nilsl, .nilsl, .nilsl, .int .i64 0, .int .i64 0, .nilsl, .nilsl, .nilsl, .nilsl, .nilsl, .int .i64 0], some (.pair (.pair (.pair (.pair (.int .i64) (.pair (.int .i64) (.sl (.pair (.int .i64) (.pair (.int .i64) (.pair (.int .i64) (.pair (.int .i64) (.int .i64)))))))) (.pair (.pair (.sl (.pair .str .str)) (.sl (.pair (.int .i64) (.pair (.int .i64) (.pair (.int .i64) (.pair .str (.sl (.pair .str .str)))))))) (.pair (.sl (.int .i64)) (.sl (.pair (.int .i64) .str))))) (.pair (.pair (.int .i64) (.pair (.int .i64) (.sl (.pair (.int .i64) (.pair (.int .i64) (.pair (.int .i64) (.pair (.int .i64) (.int .i64)))))))) (.pair (.pair (.sl (.pair .str .str)) (.sl (.pair (.int .i64) (.pair (.int .i64) (.pair (.int .i64) (.pair .str (.sl (.pair .str .str)))))))) (.pair (.sl (.int .i64)) (.sl (.pair (.int .i64) .str)))))) (.int .i64)), false⟩,
⟨.st [(72, 0), (3, 14)], 15, 280, [.int .i64 0, .int .i64 0, .nilsl, .nilsl, .nilsl, .nilsl, .nilsl, .int .i64 0, .int .i64 0, .nilsl, .nilsl, .nilsl, .nilsl, .nilsl, .int .i64 0], some (.pair (.pair (.pair (.pair (.int .i64) (.pair (.int .i64) (.sl (.pair (.int .i64) (.pair (.int .i64) (.pair (.int .i64) (.pair (.int .i64) (.int .i64)))))))) (.pair (.pair (.sl (.pair .str .str)) (.sl (.pair (.int .i64) (.pair (.int .i64) (.pair (.int .i64) (.pair .str (.sl (.pair .str .str)))))))) (.pair (.sl (.int .i64)) (.sl (.pair (.int .i64) .str))))) (.pair (.pair (.int .i64) (.pair (.int .i64) (.sl (.pair (.int .i64) (.pair (.int .i64) (.pair (.int .i64) (.pair (.int .i64) (.int .i64)))))))) (.pair (.pair (.sl (.pair .str .str)) (.sl (.pair (.int .i64) (.pair (.int .i64) (.pair (.int .i64) (.pair .str (.sl (.pair .str .str)))))))) (.pair (.sl (.int .i64)) (.sl (.pair (.int .i64) .str)))))) (.int .i64)), false⟩,
⟨.sl 84, 1, 24, [.nilsl], some (.sl (.pair (.int .i64) .str)), false⟩,
⟨.cell, 1, 8, [.junk], none, false⟩,
⟨.cell, 1, 8, [.junk], none, false⟩,
⟨.cell, 1, 8, [.nilp], none, true⟩,
⟨.other, 0, 0, [], none, false⟩,
⟨.cell, 1, 8, [.junk], none, false⟩,
⟨.sl 87, 1, 24, [.nilsl], some (.sl (.pair (.int .i64) (.pair (.int .i64) (.pair .str (.int .i64))))), false⟩,
⟨.arr 2 81, 2, 48, [.nilsl, .nilsl], some (.pair (.sl (.pair (.int .i64) (.pair (.int .i64) (.pair .str (.int .i64))))) (.sl (.pair (.int .i64) (.pair (.int .i64) (.pair .str (.int .i64)))))), false⟩,
⟨.st [(3, 0), (9, 1)], 2, 24, [.int .i64 0, .str ⟨#[]⟩], some (.pair (.int .i64) .str), true⟩,
⟨.st [(3, 0), (9, 1)], 2, 24, [.int .i64 0, .str ⟨#[]⟩], some (.pair (.int .i64) .str), true⟩,
⟨.cell, 1, 8, [.junk], none, false⟩,
⟨.st [(3, 0), (3, 1), (9, 2), (3, 3)], 4, 40, [.int .i64 0, .int .i64 0, .str ⟨#[]⟩, .int .i64 0], some (.pair (.int .i64) (.pair (.int .i64) (.pair .str (.int .i64)))), true⟩,
⟨.st [(3, 0), (3, 1), (9, 2), (3, 3)], 4, 40, [.int .i64 0, .int .i64 0, .str ⟨#[]⟩, .int .i64 0], some (.pair (.int .i64) (.pair (.int .i64) (.pair .str (.int .i64)))), true⟩,
⟨.cell, 1, 8, [.junk], none, false⟩,
⟨.cell, 1, 8, [.junk], none, false⟩,
⟨.cell, 1, 8, [.junk], none, false⟩,
⟨.cell, 1, 8, [.junk], none, false⟩,
⟨.other, 0, 0, [], none, false⟩,
⟨.cell, 1, 8, [.junk], none, false⟩,
⟨.cell, 1, 8, [.junk], none, false⟩,
⟨.cell, 1, 8, [.nilp], none, false⟩,
⟨.sl 5, 1, 24, [.nilsl], some (.sl (.int .u8)), false⟩,
⟨.st [(95, 0), (96, 1)], 2, 32, [.nilp, .nilsl], none, false⟩,
⟨.st [(95, 0), (96, 1)], 2, 32, [.nilp, .nilsl], none, false⟩,
⟨.cell, 1, 16, [.junk], none, false⟩,
⟨.cell, 1, 16, [.junk], none, false⟩,
⟨.other, 0, 0, [], none, false⟩,
⟨.cell, 1, 8, [.junk], none, false⟩,
⟨.cell, 1, 8, [.junk], none, false⟩,
⟨.other, 0, 0, [], none, false⟩,
⟨.cell, 1, 8, [.junk], none, false⟩,
⟨.st [(3, 0), (3, 1), (3, 2), (3, 3), (3, 4)], 5, 40, [.int .i64 0, .int .i64 0, .int .i64 0, .int .i64 0, .int .i64 0], some (.pair (.int .i64) (.pair (.int .i64) (.pair (.int .i64) (.pair (.int .i64) (.int .i64))))), true⟩,
⟨.st [(3, 0), (3, 1), (3, 2), (3, 3), (3, 4)], 5, 40, [.int .i64 0, .int .i64 0, .int .i64 0, .int .i64 0, .int .i64 0], some (.pair (.int .i64) (.pair (.int .i64) (.pair (.int .i64) (.pair (.int .i64) (.int .i64))))), true⟩,
⟨.other, 0, 0, [], none, false⟩,
⟨.cell, 1, 8, [.junk], none, false⟩,
⟨.cell, 1, 8, [.junk], none, false⟩,
⟨.cell, 1, 8, [.junk], none, false⟩,
⟨.other, 0, 0, [], none, false⟩,
⟨.cell, 1, 8, [.junk], none, false⟩,
⟨.other, 0, 0, [], none, false⟩,
⟨.cell, 1, 8, [.junk], none, false⟩,
⟨.cell, 1, 8, [.junk], none, false⟩,
⟨.other, 0, 0, [], none, false⟩,
⟨.cell, 1, 8, [.junk], none, false⟩,
⟨.cell, 1, 8, [.junk], none, false⟩,
⟨.cell, 1, 8, [.junk], none, false⟩,
⟨.cell, 1, 8, [.junk], none, false⟩,
⟨.cell, 1, 8, [.junk], none, false⟩,
⟨.arr 8 5, 8, 8, [.int .u8 0, .int .u8 0, .int .u8 0, .int .u8 0, .int .u8 0, .int .u8 0, .int .u8 0, .int .u8 0], some (.pair (.int .u8) (.pair (.int .u8) (.pair (.int .u8) (.pair (.int .u8) (.pair (.int .u8) (.pair (.int .u8) (.pair (.int .u8) (.int .u8)))))))), false⟩,
⟨.other, 0, 0, [], none, false⟩,
⟨.cell, 1, 8, [.junk], none, false⟩,
⟨.cell, 1, 8, [.junk], none, false⟩,
⟨.cell, 1, 8, [.junk], none, false⟩,
⟨.other, 0, 0, [], none, false⟩,
⟨.cell, 1, 8, [.junk], none, false⟩,
⟨.cell, 1, 8, [.junk], none, false⟩,
⟨.st [(9, 0), (9, 1)], 2, 32, [.str ⟨#[]⟩, .str ⟨#[]⟩], some (.pair .str .str), true⟩,
⟨.st [(9, 0), (9, 1)], 2, 32, [.str ⟨#[]⟩, .str ⟨#[]⟩], some (.pair .str .str), true⟩,
⟨.cell, 1, 8, [.junk], none, false⟩,
⟨.st [(3, 0), (3, 1), (3, 2), (9, 3), (58, 4)], 5, 64, [.int .i64 0, .int .i64 0, .int .i64 0, .str ⟨#[]⟩, .nilsl], some (.pair (.int .i64) (.pair (.int .i64) (.pair (.int .i64) (.pair .str (.sl (.pair .str .str)))))), false⟩,
⟨.st [(3, 0), (3, 1), (3, 2), (9, 3), (58, 4)], 5, 64, [.int .i64 0, .int .i64 0, .int .i64 0, .str ⟨#[]⟩, .nilsl], some (.pair (.int .i64) (.pair (.int .i64) (.pair (.int .i64) (.pair .str (.sl (.pair .str .str)))))), false⟩,
⟨.other, 0, 0, [], none, false⟩,
⟨.cell, 1, 8, [.junk], none, false⟩,
⟨.cell, 1, 8, [.junk], none, false⟩,
⟨.cell, 1, 8, [.junk], none, false⟩,
⟨.cell, 1, 8, [.junk], none, false⟩,
⟨.cell, 1, 8, [.junk], none, false⟩,
⟨.other, 0, 0, [], none, false⟩,
⟨.cell, 1, 8, [.junk], none, false⟩,
⟨.other, 0, 0, [], none, false⟩,
⟨.cell, 1, 8, [.junk], none, false⟩,
⟨.cell, 1, 8, [.junk], none, false⟩,
⟨.cell, 1, 8, [.junk], none, false⟩,
⟨.other, 0, 0, [], none, false⟩,
⟨.cell, 1, 8, [.junk], none, false⟩,
⟨.cell, 1, 8, [.junk], none, false⟩,
⟨.cell, 1, 8, [.nilp], none, false⟩,
⟨.arr 2 151, 2, 16, [.nilp, .nilp], none, false⟩,
⟨.st [(74, 0), (152, 15), (3, 17)], 18, 304, [.int .i64 0, .int .i64 0, .nilsl, .nilsl, .nilsl, .nilsl, .nilsl, .int .i64 0, .int .i64 0, .nilsl, .nilsl, .nilsl, .nilsl, .nilsl, .int .i64 0, .nilp, .nilp, .int .i64 0], none, false⟩,
⟨.st [(74, 0), (152, 15), (3, 17)], 18, 304, [.int .i64 0, .int .i64 0, .nilsl, .nilsl, .nilsl, .nilsl, .nilsl, .int .i64 0, .int .i64 0, .nilsl, .nilsl, .nilsl, .nilsl, .nilsl, .int .i64 0, .nilp, .nilp, .int .i64 0], none, false⟩,
⟨.cell, 1, 8, [.junk], none, false⟩,
⟨.other, 0, 0, [], none, false⟩,
⟨.cell, 1, 8, [.junk], none, false⟩,
⟨.sl 9, 1, 24, [.nilsl], some (.sl .str), false⟩,
⟨.other, 0, 0, [], none, false⟩,
⟨.cell, 1, 8, [.junk], none, false⟩,
⟨.cell, 1, 8, [.junk], none, false⟩,
⟨.sl 68, 1, 24, [.nilsl], some (.sl (.sl (.int .i64))), false⟩,
⟨.cell, 1, 8, [.junk], none, false⟩,
⟨.other, 0, 0, [], none, false⟩,
⟨.cell, 1, 8, [.junk], none, false⟩,
⟨.cell, 1, 8, [.junk], none, false⟩,
⟨.cell, 1, 8, [.junk], none, false⟩,
⟨.cell, 1, 8, [.junk], none, false⟩,
⟨.cell, 1, 8, [.junk], none, false⟩,
⟨.cell, 1, 8, [.junk], none, false⟩,
⟨.other, 0, 0, [], none, false⟩,
⟨.cell, 1, 8, [.junk], none, false⟩,
⟨.cell, 1, 8, [.junk], none, false⟩,
⟨.cell, 1, 8, [.junk], none, false⟩,
⟨.cell, 1, 8, [.junk], none, false⟩,
⟨.cell, 1, 8, [.junk], none, false⟩,
⟨.cell, 1, 8, [.nilp], none, false⟩,
⟨.cell, 1, 8, [.junk], none, false⟩,
⟨.cell, 1, 8, [.junk], none, false⟩,
⟨.sl 223, 1, 24, [.nilsl], some (.sl (.pair (.int .i64) .str)), false⟩,
⟨.other, 0, 0, [], none, false⟩,
⟨.cell, 1, 8, [.junk], none, false⟩,
⟨.other, 0, 0, [], none, false⟩,
⟨.cell, 1, 8, [.junk], none, false⟩,
⟨.other, 0, 0, [], none, false⟩,
⟨.cell, 1, 8, [.junk], none, false⟩,
⟨.other, 0, 0, [], none, false⟩,
⟨.cell, 1, 8, [.junk], none, false⟩,
⟨.int .u64, 1, 8, [.int .u64 0], some (.int .u64), false⟩,
⟨.cell, 1, 8, [.junk], none, false⟩,
⟨.sl 24, 1, 24, [.nilsl], some (.sl (.pair (.int .i64) (.pair (.int .i64) (.sl (.pair (.int .i64) (.pair (.int .i64) (.pair (.int .i64) (.pair (.int .i64) (.int .i64))))))))), false⟩,
⟨.map 9 4, 1, 8, [.junk], none, false⟩,
⟨.cell, 1, 8, [.junk], none, false⟩,
⟨.cell, 1, 8, [.junk], none, false⟩,
⟨.cell, 1, 8, [.junk], none, false⟩,
⟨.cell, 1, 8, [.junk], none, false⟩,
⟨.cell, 1, 8, [.junk], none, false⟩,
⟨.cell, 1, 8, [.junk], none, false⟩,
⟨.cell, 1, 8, [.junk], none, false⟩,
⟨.cell, 1, 8, [.junk], none, false⟩,
⟨.cell, 1, 8, [.junk], none, false⟩,
⟨.cell, 1, 8, [.junk], none, false⟩,
⟨.st [(31, 0), (9, 1)], 2, 24, [.int .i64 0, .str ⟨#[]⟩], some (.pair (.int .i64) .str), true⟩,
⟨.st [(31, 0), (9, 1)], 2, 24, [.int .i64 0, .str ⟨#[]⟩], some (.pair (.int .i64) .str), true⟩,
⟨.cell, 1, 8, [.junk], none, false⟩,
⟨.cell, 1, 8, [.junk], none, false⟩,
⟨.cell, 1, 8, [.junk], none, false⟩,
⟨.st [(3, 0), (4, 1), (96, 2)], 3, 40, [.int .i64 0, .b false, .nilsl], some (.pair (.int .i64) (.pair .bool (.sl (.int .u8)))), false⟩,
⟨.st [(3, 0), (4, 1), (96, 2)], 3, 40, [.int .i64 0, .b false, .nilsl], some (.pair (.int .i64) (.pair .bool (.sl (.int .u8)))), false⟩,
⟨.cell, 1, 8, [.junk], none, false⟩,
⟨.cell, 1, 8, [.junk], none, false⟩,
⟨.cell, 1, 8, [.junk], none, false⟩,
⟨.cell, 1, 8, [.junk], none, false⟩,
⟨.cell, 1, 8, [.junk], none, false⟩,
⟨.cell, 1, 8, [.nilp], none, false⟩,
⟨.cell, 1, 8, [.junk], none, false⟩,
⟨.cell, 1, 8, [.junk], none, false⟩,
⟨.cell, 1, 8, [.junk], none, false⟩,
⟨.cell, 1, 8, [.junk], none, false⟩,
⟨.map 3 4, 1, 8, [.junk], none, false⟩,
⟨.cell, 1, 8, [.junk], none, false⟩,
⟨.st [(3, 0), (9, 1)], 2, 24, [.int .i64 0, .str ⟨#[]⟩], some (.pair (.int .i64) .str), true⟩,
⟨.st [(3, 0), (9, 1)], 2, 24, [.int .i64 0, .str ⟨#[]⟩], some (.pair (.int .i64) .str), true⟩,
⟨.cell, 1, 8, [.junk], none, false⟩,
⟨.other, 0, 0, [], none, false⟩,
⟨.cell, 1, 8, [.junk], none, false⟩,
⟨.cell, 1, 8, [.junk], none, false⟩,
⟨.cell, 1, 8, [.junk], none, false⟩,
⟨.cell, 1, 8, [.junk], none, false⟩,
⟨.cell, 1, 8, [.junk], none, false⟩,
⟨.cell, 1, 8, [.junk], none, false⟩,
⟨.cell, 1, 8, [.junk], none, false⟩,
⟨.cell, 1, 8, [.junk], none, false⟩,
⟨.cell, 1, 8, [.junk], none, false⟩,
⟨.cell, 1, 8, [.junk], none, false⟩,
⟨.cell, 1, 8, [.junk], none, false⟩,
⟨.cell, 1, 8, [.junk], none, false⟩,
⟨.cell, 1, 8, [.junk], none, false⟩,
⟨.cell, 1, 8, [.junk], none, false⟩,
⟨.sl 31, 1, 24, [.nilsl], some (.sl (.int .i64)), false⟩,
⟨.other, 0, 0, [], none, false⟩,
⟨.cell, 1, 8, [.junk], none, false⟩,
⟨.cell, 1, 8, [.junk], none, false⟩,
⟨.cell, 1, 8, [.junk], none, false⟩,
⟨.cell, 1, 8, [.junk], none, false⟩,
⟨.other, 0, 0, [], none, false⟩,
⟨.other, 0, 0, [], none, false⟩,
⟨.other, 0, 0, [], none, false⟩,
⟨.cell, 1, 8, [.junk], none, false⟩,
⟨.cell, 1, 8, [.junk], none, false⟩,
⟨.cell, 1, 8, [.nilp], none, false⟩,
⟨.other, 0, 0, [], none, false⟩,
⟨.cell, 1, 8, [.junk], none, false⟩,
⟨.cell, 1, 8, [.junk], none, false⟩,
⟨.cell, 1, 8, [.junk], none, false⟩,
⟨.cell, 1, 8, [.junk], none, false⟩,
⟨.cell, 1, 8, [.junk], none, false⟩,
⟨.int .u32, 1, 4, [.int .u32 0], some (.int .u32), false⟩,
⟨.other, 0, 0, [], none, false⟩,
⟨.cell, 1, 8, [.junk], none, false⟩,
⟨.cell, 1, 8, [.junk], none, false⟩,
⟨.cell, 1, 8, [.junk], none, false⟩,
⟨.other, 0, 0, [], none, false⟩,
⟨.cell, 1, 8, [.junk], none, false⟩,
⟨.cell, 1, 8, [.junk], none, false⟩,
⟨.cell, 1, 8, [.junk], none, false⟩,
⟨.cell, 1, 8, [.junk], none, false⟩,
⟨.cell, 1, 8, [.junk], none, false⟩,
⟨.cell, 1, 8, [.junk], none, false⟩,
⟨.cell, 1, 8, [.junk], none, false⟩,
⟨.cell, 1, 8, [.junk], none, false⟩,
⟨.cell, 1, 8, [.junk], none, false⟩,
⟨.other, 0, 0, [], none, false⟩,
⟨.st [(5, 0), (5, 1)], 2, 2, [.int .u8 0, .int .u8 0], some (.pair (.int .u8) (.int .u8)), true⟩,
⟨.st [(5, 0), (5, 1)], 2, 2, [.int .u8 0, .int .u8 0], some (.pair (.int .u8) (.int .u8)), true⟩,
⟨.arr 16 275, 32, 32, [.int .u8 0, .int .u8 0, .int .u8 0, .int .u8 0, .int .u8 0, .int .u8 0, .int .u8 0, .int .u8 0, .int .u8 0, .int .u8 0, .int .u8 0, .int .u8 0, .int .u8 0, .int .u8 0, .int .u8 0, .int .u8 0, .int .u8 0, .int .u8 0, .int .u8 0, .int .u8 0, .int .u8 0, .int .u8 0, .int .u8 0, .int .u8 0, .int .u8 0, .int .u8 0, .int .u8 0, .int .u8 0, .int .u8 0, .int .u8 0, .int .u8 0, .int .u8 0], some (.pair (.pair (.int .u8) (.int .u8)) (.pair (.pair (.int .u8) (.int .u8)) (.pair (.pair (.int .u8) (.int .u8)) (.pair (.pair (.int .u8) (.int .u8)) (.pair (.pair (.int .u8) (.int .u8)) (.pair (.pair (.int .u8) (.int .u8)) (.pair (.pair (.int .u8) (.int .u8)) (.pair (.pair (.int .u8) (.int .u8)) (.pair (.pair (.int .u8) (.int .u8)) (.pair (.pair (.int .u8) (.int .u8)) (.pair (.pair (.int .u8) (.int .u8)) (.pair (.pair (.int .u8) (.int .u8)) (.pair (.pair (.int .u8) (.int .u8)) (.pair (.pair (.int .u8) (.int .u8)) (.pair (.pair (.int .u8) (.int .u8)) (.pair (.int .u8) (.int .u8))))))))))))))))), false⟩,
⟨.cell, 1, 8, [.junk], none, false⟩,
⟨.cell, 1, 8, [.junk], none, false⟩,
⟨.cell, 1, 8, [.junk], none, false⟩,
⟨.st [(17, 0), (17, 1), (17, 2), (9, 3)], 4, 40, [.nilp, .nilp, .nilp, .str ⟨#[]⟩], none, false⟩,
⟨.st [(17, 0), (17, 1), (17, 2), (9, 3)], 4, 40, [.nilp, .nilp, .nilp, .str ⟨#[]⟩], none, false⟩,
⟨.arr 0 16, 0, 0, [], some .unit, false⟩,
⟨.st [(282, 0)], 0, 0, [], some .unit, false⟩,
⟨.st [(282, 0)], 0, 0, [], some .unit, false⟩,
⟨.int .u8, 1, 1, [.int .u8 0], some (.int .u8), false⟩,
⟨.int .u8, 1, 1, [.int .u8 0], some (.int .u8), false⟩,
⟨.cell, 1, 8, [.junk], none, false⟩,
⟨.int .i32, 1, 4, [.int .i32 0], some (.int .i32), false⟩,
⟨.int .i32, 1, 4, [.int .i32 0], some (.int .i32), false⟩,
⟨.st [(12, 0), (12, 1), (258, 2), (285, 3), (5, 4), (5, 5), (286, 6), (287, 7), (177, 8), (288, 9), (289, 10)], 11, 48, [.int .u64 0, .int .u64 0, .int .u32 0, .int .u8 0, .int .u8 0, .int .u8 0, .int .u8 0, .junk, .nilp, .int .i32 0, .int .i32 0], none, false⟩,
⟨.st [(12, 0), (12, 1), (258, 2), (285, 3), (5, 4), (5, 5), (286, 6), (287, 7), (177, 8), (288, 9), (289, 10)], 11, 48, [.int .u64 0, .int .u64 0, .int .u32 0, .int .u8 0, .int .u8 0, .int .u8 0, .int .u8 0, .junk, .nilp, .int .i32 0, .int .i32 0], none, false⟩]
end Go.Proofs.YtkaihbkfobiejaaGreatDoor.Xe
