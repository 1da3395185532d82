/- The executor: a region whose order is open: all of it. -/
import Derived.Test.YtnhogpbibcgpkaaXt0
namespace Go.Proofs.Ytnhogpbibcgpkaa.Xe
open Go Go.RowKit
set_option linter.unusedVariables false
set_option linter.unusedSimpArgs false
variable {P : Program} {R : Type} {w0 : World} {σ0 : Nat → Nat → Prop} {r : R} {C : Ctx} {ops : Array Oper} {sI : St} {S : Nat → St} {idf : Nat → Nat}
section
variable {L : Array Bool} {a aa : Act} {w w1 : World} {ρ ρ1 : Env} {σ σ1 : Nat → Nat → Prop} {κ i : Nat} {o : Oper}
theorem kap_same (hI : Inv P C ops sI S idf w0 σ0 ρ1 σ1 w1 aa L a w ρ σ κ) (hi : ops[i]? = some o) (hl : L.getD i false = false) (hh : isHeap o.op = false) :
    ∀ (j : Nat) p, ops[j]? = some p → isHeap p.op = true → ((L.setIfInBounds i true).getD j false = true ↔ j < κ) := fun j p hj hp => by
  rw [not_box hi hl hI.size]
  have hne : j ≠ i := fun e => by subst e; rw [hi] at hj; obtain rfl := Option.some.inj hj; rw [hh] at hp; cases hp
  rw [if_neg hne]
  exact hI.kap j p hj hp
theorem kap_heap (hI : Inv P C ops sI S idf w0 σ0 ρ1 σ1 w1 aa L a w ρ σ κ) (h : DR C ops sI S idf) (hi : ops[i]? = some o) (hl : L.getD i false = false) (hr : ∀ e ∈ aft o, L.getD e.on false = true) (hh : isHeap o.op = true) :
    ∀ (j : Nat) p, ops[j]? = some p → isHeap p.op = true → ((L.setIfInBounds i true).getD j false = true ↔ j < i + 1) := fun j p hj hp => by
  rw [not_box hi hl hI.size]
  by_cases hne : j = i
  · rw [if_pos hne]; simp; omega
  · rw [if_neg hne]
    have hord := h.heap i j o p hi hj hne hh (.inl hp)
    rcases Nat.lt_or_gt_of_ne hne with hlt | hgt
    · rw [if_pos hlt] at hord
      have := h.listed hI.closed i o hi hr j hord
      rw [this]; simp; omega
    · rw [if_neg (by omega)] at hord
      constructor
      · intro hjl
        have := h.listed hI.closed j p hj (hI.closed j p hj hjl) i hord
        rw [hl] at this; cases this
      · intro hjl; omega
theorem later (h : DR C ops sI S idf) (hi : ops[i]? = some o) {d : Nat} (hd : o.dst = some d) : Eqv ((S (i + 1)).tmps.getD d .junk) ((S ops.size).tmps.getD d .junk) := by
  have hin : i < ops.size := (Array.getElem?_eq_some_iff.1 hi).1
  have := h.eqv (k := i + 1) (t := d) (ops.size - (i + 1)) (by omega) (fun x h1 h2 p hx ha hp => by have := h.uniq i x o p d hi hx hd hp; omega)
  rw [show i + 1 + (ops.size - (i + 1)) = ops.size by omega] at this
  exact this
theorem box_same {b : Nat} {q : Nat → Option (List AV)} (hi : ops[i]? = some o) (hl : L.getD i false = false) (hs : L.size = ops.size) (ha : isAlloc o.op = false) :
    (@ite _ (∃ (j : Nat) (p : Oper), ops[j]? = some p ∧ isAlloc p.op = true ∧ idf j = b ∧ L.getD j false = false) (Classical.propDecidable _) none (q b)) = @ite _ (∃ (j : Nat) (p : Oper), ops[j]? = some p ∧ isAlloc p.op = true ∧ idf j = b ∧ (L.setIfInBounds i true).getD j false = false) (Classical.propDecidable _) none (q b) := by
  have : (∃ (j : Nat) (p : Oper), ops[j]? = some p ∧ isAlloc p.op = true ∧ idf j = b ∧ L.getD j false = false) ↔ (∃ (j : Nat) (p : Oper), ops[j]? = some p ∧ isAlloc p.op = true ∧ idf j = b ∧ (L.setIfInBounds i true).getD j false = false) := by
    constructor
    · rintro ⟨j, p, h1, h2, h3, h4⟩
      refine ⟨j, p, h1, h2, h3, ?_⟩
      rw [not_box hi hl hs, if_neg (fun e => by subst e; rw [hi] at h1; obtain rfl := Option.some.inj h1; rw [ha] at h2; cases h2)]
      exact h4
    · rintro ⟨j, p, h1, h2, h3, h4⟩
      refine ⟨j, p, h1, h2, h3, ?_⟩
      rw [not_box hi hl hs] at h4
      split at h4
      · cases h4
      · exact h4
  by_cases hc : ∃ (j : Nat) (p : Oper), ops[j]? = some p ∧ isAlloc p.op = true ∧ idf j = b ∧ L.getD j false = false
  · rw [if_pos hc, if_pos (this.1 hc)]
  · rw [if_neg hc, if_neg (fun x => hc (this.2 x))]
/-- All new variables are there when the heap is first turned. -/
theorem heap_all (hI : Inv P C ops sI S idf w0 σ0 ρ1 σ1 w1 aa L a w ρ σ κ) (h : DR C ops sI S idf) (hi : ops[i]? = some o) (hr : ∀ e ∈ aft o, L.getD e.on false = true) (hh : isHeap o.op = true) (b : Nat) :
    ¬ ∃ (j : Nat) (p : Oper), ops[j]? = some p ∧ isAlloc p.op = true ∧ idf j = b ∧ L.getD j false = false := by
  rintro ⟨j, p, h1, h2, h3, h4⟩
  have := h.listed hI.closed i o hi hr j (h.heapA i j o p hi h1 hh h2)
  rw [this] at h4; cases h4
theorem ops_look {x : Tmp} (hx : Operand.tmp x ∈ o.op.operands.toList) : x ∈ o.looksAt ops := by
  unfold Oper.looksAt
  rw [List.mem_append]
  left
  rw [List.mem_filterMap]
  exact ⟨_, hx, rfl⟩
theorem Inv.operands (hI : Inv P C ops sI S idf w0 σ0 ρ1 σ1 w1 aa L a w ρ σ κ) (h : DR C ops sI S idf) (hi : ops[i]? = some o) (hl : L.getD i false = false) (hr : ∀ e ∈ aft o, L.getD e.on false = true) {s' : St} {b : Bool} (hg : Grd ops o (S i) s' b) :
    ∀ x ∈ o.op.operands.toList, RA ρ w0.heap.size σ w (ev s' x) (a.eval x) := fun x hx => by
  cases x with
  | tmp t => exact (hg.same.2.2.2 t ρ _ σ w _).1 (hI.looks h hi hl hr (ops_look hx))
  | const v => exact RA.ofV v
  | global g => trivial
  | func f => exact ⟨#[], rfl, rfl⟩
theorem draw_step (hT : TabOk P C.T) (hG : CtxOk P C) {Q : Exit → Act → World → Prop} (hI : Inv P C ops sI S idf w0 σ0 ρ1 σ1 w1 aa L a w ρ σ κ) (h : DR C ops sI S idf) (hi : ops[i]? = some o) (hl : L.getD i false = false) (hr : ∀ e ∈ aft o, L.getD e.on false = true) :
    wpOp P ops Q i (fun a' w' => ∃ ρ' σ' κ', Inv P C ops sI S idf w0 σ0 ρ1 σ1 w1 aa (L.setIfInBounds i true) a' w' ρ' σ' κ') a w := by
  have hin : i < ops.size := (Array.getElem?_eq_some_iff.1 hi).1
  unfold wpOp
  simp only [hi]
  have hst := h.stp i o hi
  generalize hs1 : S (i + 1) = s1 at hst
  cases hst with
  | alloc ha =>
    obtain ⟨e, he⟩ : ∃ e, o.op = .alloc e := by cases hh : o.op <;> rw [hh] at ha <;> first | exact ⟨_, rfl⟩ | cases ha
    have hd := h.op i o hi
    unfold drawOp at hd
    rw [he] at hd
    simp only [Bool.and_eq_true] at hd
    have hgd : o.guard = none := by simpa using hd.1
    obtain ⟨ti, z, kn⟩ := addr_pos (P := P) hT hd.2
    rw [if_pos (by unfold Region.wanted; rw [hgd])]
    left
    have hb0 : @ite _ (∃ (j : Nat) (p : Oper), ops[j]? = some p ∧ isAlloc p.op = true ∧ idf j = idf i ∧ L.getD j false = false) (Classical.propDecidable _) none ((S κ).boxes[idf i]?) = none := if_pos ⟨i, o, hi, ha, rfl, hl⟩
    obtain ⟨m1, m2⟩ := hI.heap.newBox (b0 := idf i) (cs := (C.ti e).zero) (vs := z.cells) hb0 e (by rw [kn.cells]; exact RAs.ofLeaf _)
    have hrun : (execOp a.eval o).run P w = .ok (.value (.pointer (some ⟨w.heap.size, 0, none⟩))) (w.alloc (.cells z.cells e)) := by
      have hz := kn.zeroValue w
      simp [execOp, he, Instr.alloc, hz, newVar, newRow]
    have hheap : isHeap o.op = false := by rw [he]; rfl
    have hk0 : (S κ).boxes = (S 0).boxes := by
      have := h.stills (k := 0) κ (by have := hI.kle; omega) (fun x _ hx p hp => by
        cases hh : isHeap p.op with
        | false => rfl
        | true =>
          exfalso
          have hxl := (hI.kap x p hp hh).2 (by omega)
          have := h.listed hI.closed x p hp (hI.closed x p hp hxl) i (h.heapA x i p o hp hi hh ha)
          rw [hl] at this; cases this)
      rw [Nat.zero_add] at this
      exact this.1
    unfold Oper.wp
    rw [hrun]
    refine ⟨_, σ, κ, hI.next h hi hl hr m1 (fun d hdd hdl => ?_) hI.kle (kap_same hI hi hl hheap) (m2.congr fun b => ?_)⟩
    · have h0 := h.made.dst i o d (by rw [Array.getElem?_toList]; exact hi) ha hdd hdl
      have he' := h.eqv (k := 0) (t := d) ops.size (by omega) (fun x _ _ p hx hpa hp => by
        have := h.uniq i x o p d hi hx hdd hp
        subst this
        rw [hi] at hx
        obtain rfl := Option.some.inj hx
        rw [ha] at hpa; cases hpa)
      rw [Nat.zero_add, h0] at he'
      refine (he' _ _ _ _ _).1 ⟨w.heap.size, ?_, rfl⟩
      show (if idf i = idf i then _ else _) = _
      rw [if_pos rfl]
    · by_cases hb : b = idf i
      · rw [if_pos hb, if_neg]
        · rw [hk0, hb]
          exact ((h.made.new i o e (by rw [Array.getElem?_toList]; exact hi) he).2).symm
        · rintro ⟨j, p, h1, h2, h3, h4⟩
          have := h.made.inj j i p o (by rw [Array.getElem?_toList]; exact h1) (by rw [Array.getElem?_toList]; exact hi) h2 ha (by rw [h3, hb])
          subst this
          rw [not_box hi hl hI.size, if_pos rfl] at h4; cases h4
      · rw [if_neg hb]
        have : (∃ (j : Nat) (p : Oper), ops[j]? = some p ∧ isAlloc p.op = true ∧ idf j = b ∧ L.getD j false = false) ↔ (∃ (j : Nat) (p : Oper), ops[j]? = some p ∧ isAlloc p.op = true ∧ idf j = b ∧ (L.setIfInBounds i true).getD j false = false) := by
          constructor
          · rintro ⟨j, p, h1, h2, h3, h4⟩
            refine ⟨j, p, h1, h2, h3, ?_⟩
            rw [not_box hi hl hI.size, if_neg (fun e => hb (by rw [← h3, e]))]
            exact h4
          · rintro ⟨j, p, h1, h2, h3, h4⟩
            refine ⟨j, p, h1, h2, h3, ?_⟩
            rw [not_box hi hl hI.size] at h4
            split at h4
            · cases h4
            · exact h4
        by_cases hc : ∃ (j : Nat) (p : Oper), ops[j]? = some p ∧ isAlloc p.op = true ∧ idf j = b ∧ L.getD j false = false
        · rw [if_pos hc, if_pos (this.1 hc)]
        · rw [if_neg hc, if_neg (fun x => hc (this.2 x))]
  | exec ha hg hx =>
    rename_i s' s2 av
    rw [if_pos (hI.wants h hi hl hr hg)]
    left
    have hvals := hI.operands h hi hl hr hg
    have hgs := hg.same
    have hpr := xs_pair hx
    have hdv : ∀ {ρ' : Env} {σ' : Nat → Nat → Prop} {w' : World} {v : Value}, RA ρ' w0.heap.size σ' w' av v → ∀ d, o.dst = some d → d < sI.tmps.length → RA ρ' w0.heap.size σ' w' ((S ops.size).tmps.getD d .junk) v := fun {ρ' σ' w' v} g d hd hdl => by
      refine (later h hi hd _ _ _ _ _).1 ?_
      rw [hs1, put_getD, if_pos ⟨hd, by rw [hpr.1, hgs.2.2.1, h.len i (by omega)]; exact hdl⟩]
      exact g
    cases hheap : isHeap o.op with
    | false =>
      have hq := quiet_of (h.op i o hi) hheap ha
      obtain rfl : s' = s2 := (hpr.2 hq).symm
      have hout : o.wp P a w (Out ρ w0.heap.size σ w (fun v => pairK v s') (av, s') o a) Q := by
        cases hld : isLoad o.op with
        | false =>
          rw [xs_xa hq hld] at hx
          exact xa_sound hT hG.g hI.heap.fits hvals hx
        | true =>
          obtain ⟨t, x, ho⟩ : ∃ t x, o.op = .load t x := by cases hh : o.op <;> rw [hh] at hld <;> first | exact ⟨_, _, rfl⟩ | cases hld
          rw [ho] at hx
          have hat := hI.loadAt h hi hl hr hld
          refine out_yields (s := Instr.loadAt t (a.eval x)) (by simp only [execOp, ho]) (load_yields (s := s') hT hI.heap (fun b cs β hφ hb => ?_) (by simpa [xs] using hx) (hvals x (by rw [ho]; simp [Op.operands]))) hI.heap.fits
          have hsome := (hI.heap.phi b β hφ).1
          by_cases hc : ∃ (j : Nat) (p : Oper), ops[j]? = some p ∧ isAlloc p.op = true ∧ idf j = b ∧ L.getD j false = false
          · rw [if_pos hc] at hsome; cases hsome
          · rw [if_neg hc, hat, ← hgs.1]; exact hb
      refine Oper.wp_mono (fun a' w' ⟨av', v, σ', h1, h2, h3, h4⟩ => ?_) hout
      have h1 : (av', s') = (av, s') := Option.some.inj h1
      simp only [Prod.mk.injEq, and_true] at h1
      subst h1
      subst h2
      exact ⟨ρ, σ', κ, hI.next h hi hl hr (hI.heap.mono h4) (hdv h3) hI.kle (kap_same hI hi hl hheap) ((hI.heap.grow h4).congr fun b => box_same (q := fun b => (S κ).boxes[b]?) hi hl hI.size ha)⟩
    | true =>
      have hat := hI.heapAt h hi hl hr hheap
      have hH : HR P w0 σ0 ρ σ (fun b => s'.boxes[b]?) s'.alive w := by
        have := hI.heap
        rw [hat.2, ← hgs.2.1] at this
        refine this.congr fun b => ?_
        rw [if_neg (heap_all hI h hi hr hheap b), hat.1, ← hgs.1]
      refine Oper.wp_mono (fun a' w' ⟨av', s'', v, ρ', σ', h1, h2, h3, h4, h5, h6⟩ => ?_) (xs_sound (Q := Q) hT hG hvals hH hx)
      have h1 : (av', s'') = (av, s2) := Option.some.inj h1
      simp only [Prod.mk.injEq] at h1
      obtain ⟨rfl, rfl⟩ := h1
      subst h2
      refine ⟨ρ', σ', i + 1, hI.next h hi hl hr h5 (hdv h4) hin (kap_heap hI h hi hl hr hheap) ?_⟩
      rw [hs1, St.put_alive, St.put_boxes]
      refine h6.congr fun b => ?_
      rw [if_neg]
      rintro ⟨j, p, q1, q2, q3, q4⟩
      refine heap_all hI h hi hr hheap b ⟨j, p, q1, q2, q3, ?_⟩
      rw [not_box hi hl hI.size] at q4
      split at q4
      · cases q4
      · exact q4
  | skip ha hg =>
    rename_i s'
    rw [if_neg (by rw [hI.wants h hi hl hr hg]; exact Bool.false_ne_true)]
    have hgs := hg.same
    have hdv : ∀ d, o.dst = some d → d < sI.tmps.length → RA ρ w0.heap.size σ w ((S ops.size).tmps.getD d .junk) undef := fun d hd hdl => by
      refine (later h hi hd _ _ _ _ _).1 ?_
      rw [hs1, put_getD, if_pos ⟨hd, by rw [hgs.2.2.1, h.len i (by omega)]; exact hdl⟩]
      exact ⟨#[], rfl, rfl⟩
    cases hheap : isHeap o.op with
    | false => exact ⟨ρ, σ, κ, hI.next h hi hl hr Mono.refl hdv hI.kle (kap_same hI hi hl hheap) (hI.heap.congr fun b => box_same (q := fun b => (S κ).boxes[b]?) hi hl hI.size ha)⟩
    | true =>
      have hat := hI.heapAt h hi hl hr hheap
      refine ⟨ρ, σ, i + 1, hI.next h hi hl hr Mono.refl hdv hin (kap_heap hI h hi hl hr hheap) ?_⟩
      rw [hs1, St.put_alive, St.put_boxes, hgs.1, hgs.2.1, ← hat.1, ← hat.2]
      exact hI.heap.congr fun b => box_same (q := fun b => (S κ).boxes[b]?) hi hl hI.size ha
end
end Go.Proofs.Ytnhogpbibcgpkaa.Xe
