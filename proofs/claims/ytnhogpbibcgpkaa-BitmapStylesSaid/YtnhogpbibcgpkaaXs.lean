/- The executor: a region whose order is open: every order does. -/
import Derived.Test.YtnhogpbibcgpkaaXr
namespace Go.Proofs.Ytnhogpbibcgpkaa.Xe
open Go Go.RowKit
set_option linter.unusedVariables false
set_option linter.unusedSimpArgs false
variable {P : Program} {R : Type} {w0 : World} {σ0 : Nat → Nat → Prop} {r : R} {C : Ctx} {ops : Array Oper} {sI : St} {S : Nat → St} {idf : Nat → Nat}
structure DR (C : Ctx) (ops : Array Oper) (sI : St) (S : Nat → St) (idf : Nat → Nat) : Prop where
  stp : ∀ (j : Nat) o, ops[j]? = some o → Stp C ops o (S j) (S (j + 1))
  made : Made C ops.toList sI (S 0) idf
  op : ∀ (i : Nat) o, ops[i]? = some o → drawOp C o = true
  edge : ∀ (i : Nat) o, ops[i]? = some o → ∀ e ∈ aft o, Region.binds .any e = true ∧ e.on < i
  self : ∀ (i : Nat) o d, ops[i]? = some o → o.dst = some d → d ∉ o.looksAt ops
  look : ∀ (i j : Nat) o p d, ops[i]? = some o → ops[j]? = some p → j ≠ i → p.dst = some d → d ∈ o.looksAt ops → j ∈ (ancs ops.toList []).getD i [] ∨ (isAlloc p.op = false ∧ i ∈ (ancs ops.toList []).getD j [])
  uniq : ∀ (i j : Nat) o p d, ops[i]? = some o → ops[j]? = some p → o.dst = some d → p.dst = some d → i = j
  heap : ∀ (i j : Nat) o p, ops[i]? = some o → ops[j]? = some p → j ≠ i → isHeap o.op = true → (isHeap p.op = true ∨ (isStore o.op = true ∧ isLoad p.op = true)) → if j < i then j ∈ (ancs ops.toList []).getD i [] else i ∈ (ancs ops.toList []).getD j []
  heapA : ∀ (i j : Nat) o p, ops[i]? = some o → ops[j]? = some p → isHeap o.op = true → isAlloc p.op = true → j ∈ (ancs ops.toList []).getD i []
theorem DR.of (hd : drawOk C ops.toList = true) (hs : ∀ (j : Nat) o, ops.toList[j]? = some o → Stp C ops o (S j) (S (j + 1))) (h0 : S 0 = preAlloc C ops.toList sI) : ∃ idf, DR C ops sI S idf := by
  have hz : ∀ (i : Nat) o, ops[i]? = some o → (o, i) ∈ ops.toList.zipIdx := fun i o h => by
    rw [List.mem_iff_getElem?]
    exact ⟨i, by rw [List.getElem?_zipIdx, Array.getElem?_toList, h]; simp⟩
  unfold drawOk at hd
  rw [List.all_eq_true] at hd
  have h1 : ∀ (i : Nat) o, ops[i]? = some o → drawOp C o = true ∧ (match o.dst with | some d => !(o.looksAt ops.toList.toArray).contains d | none => true) = true ∧ ((aft o).all fun e => decide (e.on < i)) = true ∧ ∀ (j : Nat) p, ops[j]? = some p → j ≠ i → beside ops.toList (ancs ops.toList []) i j o p = true := fun i o h => by
    have := hd (o, i) (hz i o h)
    simp only [Bool.and_eq_true] at this
    obtain ⟨⟨⟨q1, q2⟩, q3⟩, q4⟩ := this
    refine ⟨q1, q2, q3, fun j p hj hne => ?_⟩
    rw [List.all_eq_true] at q4
    have := q4 (p, j) (hz j p hj)
    simpa [hne] using this
  have bes : ∀ (i j : Nat) o p, ops[i]? = some o → ops[j]? = some p → j ≠ i → ((∀ d, p.dst = some d → o.dst ≠ some d ∧ (d ∈ o.looksAt ops → j ∈ (ancs ops.toList []).getD i [] ∨ (isAlloc p.op = false ∧ i ∈ (ancs ops.toList []).getD j []))) ∧ (isHeap o.op = true → (isHeap p.op = true ∨ (isStore o.op = true ∧ isLoad p.op = true)) → if j < i then j ∈ (ancs ops.toList []).getD i [] else i ∈ (ancs ops.toList []).getD j [])) ∧ (isHeap o.op = true → isAlloc p.op = true → j ∈ (ancs ops.toList []).getD i []) := fun i j o p hi hj hne => by
    have := (h1 i o hi).2.2.2 j p hj hne
    unfold beside at this
    simp only [Bool.and_eq_true] at this
    obtain ⟨⟨q1, q2⟩, q3⟩ := this
    refine ⟨⟨fun d hd => ?_, fun ho hp => ?_⟩, fun ho hp => ?_⟩
    · rw [hd] at q1
      simp only [Bool.and_eq_true, bne_iff_ne, ne_eq, Bool.or_eq_true, Bool.not_eq_true', Array.toArray_toList] at q1
      refine ⟨q1.1, fun hm => ?_⟩
      rcases q1.2 with (h | h) | h
      · rw [List.contains_eq_mem] at h; simp [hm] at h
      · left; simpa using h
      · right; simpa using h
    · have hpb : (isHeap p.op || (isStore o.op && isLoad p.op)) = true := by rcases hp with hp | hp <;> simp [hp]
      simp only [ho, hpb, Bool.and_true, Bool.not_true, Bool.false_or] at q2
      by_cases hji : j < i
      · rw [if_pos hji] at q2 ⊢; simpa using q2
      · rw [if_neg hji] at q2 ⊢; simpa using q2
    · simp only [ho, hp, Bool.and_true, Bool.not_true, Bool.false_or] at q3; simpa using q3
  have uniq : ∀ (i j : Nat) o p d, ops[i]? = some o → ops[j]? = some p → o.dst = some d → p.dst = some d → i = j := fun i j o p d hi hj ho hp => by
    by_cases h : j = i
    · exact h.symm
    · exact absurd ho ((bes i j o p hi hj h).1.1 d hp).1
  obtain ⟨idf, m⟩ := made_of C ops.toList sI (fun i j o p d hi hj => uniq i j o p d (by rw [← Array.getElem?_toList]; exact hi) (by rw [← Array.getElem?_toList]; exact hj))
  refine ⟨idf, ⟨fun j o h => hs j o (by rw [Array.getElem?_toList]; exact h), by rw [h0]; exact m, fun i o h => (h1 i o h).1, fun i o h e he => ?_, fun i o d h hd hm => ?_, fun i j o p d hi hj hne hp hm => ((bes i j o p hi hj hne).1.1 d hp).2 hm, uniq, fun i j o p hi hj hne => (bes i j o p hi hj hne).1.2, fun i j o p hi hj ho hp => ?_⟩⟩
  · have := List.all_eq_true.1 (h1 i o h).2.2.1 e he
    exact ⟨(List.mem_filter.1 he).2, by simpa using this⟩
  · have := (h1 i o h).2.1
    rw [hd] at this
    simp only [Array.toArray_toList, Bool.not_eq_true', List.contains_eq_mem] at this
    simp [hm] at this
  · have hne : j ≠ i := fun e => by
      subst e
      rw [hi] at hj
      obtain rfl := Option.some.inj hj
      cases hh : o.op <;> rw [hh] at ho hp <;> first | (cases hp; done) | (cases ho; done)
    exact (bes i j o p hi hj hne).2 ho hp
theorem DR.anc (h : DR C ops sI S idf) (i : Nat) (o : Oper) (hi : ops[i]? = some o) (j : Nat) (hj : j ∈ (ancs ops.toList []).getD i []) : ∃ e ∈ aft o, j = e.on ∨ j ∈ (ancs ops.toList []).getD e.on [] := by
  have := ancs_get ops.toList [] i o (by rw [Array.getElem?_toList]; exact hi) j (by simpa using hj)
  exact this
theorem DR.anc_lt (h : DR C ops sI S idf) : ∀ (i : Nat) (o : Oper), ops[i]? = some o → ∀ j ∈ (ancs ops.toList []).getD i [], j < i := by
  intro i
  induction i using Nat.strongRecOn with
  | _ i ih =>
    intro o hi j hj
    obtain ⟨e, he, hje⟩ := h.anc i o hi j hj
    have hlt := (h.edge i o hi e he).2
    rcases hje with rfl | hje
    · exact hlt
    · have hs : e.on < ops.size := Nat.lt_trans hlt (Array.getElem?_eq_some_iff.1 hi).1
      exact Nat.lt_trans (ih e.on hlt _ (Array.getElem?_eq_getElem hs) j hje) hlt
/-- Those that are listed have their ancestors listed. -/
def Closed (ops : Array Oper) (L : Array Bool) : Prop := ∀ (i : Nat) o, ops[i]? = some o → L.getD i false = true → ∀ e ∈ aft o, L.getD e.on false = true
theorem DR.listed (h : DR C ops sI S idf) {L : Array Bool} (hc : Closed ops L) : ∀ (i : Nat) (o : Oper), ops[i]? = some o → (∀ e ∈ aft o, L.getD e.on false = true) → ∀ j ∈ (ancs ops.toList []).getD i [], L.getD j false = true := by
  intro i
  induction i using Nat.strongRecOn with
  | _ i ih =>
    intro o hi hr j hj
    obtain ⟨e, he, hje⟩ := h.anc i o hi j hj
    have hlt := (h.edge i o hi e he).2
    have hl := hr e he
    rcases hje with rfl | hje
    · exact hl
    · have hs : e.on < ops.size := Nat.lt_trans hlt (Array.getElem?_eq_some_iff.1 hi).1
      have ho := Array.getElem?_eq_getElem hs
      exact ih e.on hlt _ ho (hc e.on _ ho hl) j hje
theorem quiet_of {o : Oper} (h1 : drawOp C o = true) (h2 : isHeap o.op = false) (h3 : isAlloc o.op = false) : quiet o.op = true := by
  unfold drawOp at h1
  cases ho : o.op with
  | alloc e => rw [ho] at h3; cases h3
  | box e x => rw [ho] at h1; cases h1
  | makeMap t n => rw [ho] at h1; cases h1
  | lookup t m x c => rw [ho] at h1; cases h1
  | mapUpdate t m x v => rw [ho] at h1; cases h1
  | range t x => rw [ho] at h1; cases h1
  | next x c => rw [ho] at h1; cases h1
  | store t a v => rw [ho] at h2; cases h2
  | makeSlice t n c => rw [ho] at h1; cases h1
  | call c =>
    rw [ho] at h2
    cases hc : c with
    | mk callee args tys =>
      rw [hc] at h2
      cases callee with
      | builtin b => cases b <;> first | rfl | cases h2
      | _ => rfl
  | _ => rfl
theorem DR.still (h : DR C ops sI S idf) {k : Nat} {o : Oper} (hk : ops[k]? = some o) (hh : isHeap o.op = false) : (S (k + 1)).boxes = (S k).boxes ∧ (S (k + 1)).alive = (S k).alive := by
  have hs := h.stp k o hk
  generalize S (k + 1) = s1 at hs
  cases hs with
  | alloc ha => exact ⟨rfl, rfl⟩
  | exec ha hg hx =>
    have := (xs_pair hx).2 (quiet_of (h.op k o hk) hh ha)
    subst this
    rw [St.put_boxes, St.put_alive]
    exact ⟨hg.same.1, hg.same.2.1⟩
  | skip ha hg =>
    rw [St.put_boxes, St.put_alive]
    exact ⟨hg.same.1, hg.same.2.1⟩
theorem DR.stills (h : DR C ops sI S idf) {k : Nat} : ∀ (m : Nat), k + m ≤ ops.size → (∀ x, k ≤ x → x < k + m → ∀ o, ops[x]? = some o → isHeap o.op = false) → (S (k + m)).boxes = (S k).boxes ∧ (S (k + m)).alive = (S k).alive
  | 0, _, _ => ⟨rfl, rfl⟩
  | m + 1, hm, hx => by
    obtain ⟨h1, h2⟩ := h.stills m (by omega) (fun x a b => hx x a (by omega))
    have hs : k + m < ops.size := by omega
    obtain ⟨h3, h4⟩ := h.still (Array.getElem?_eq_getElem hs) (hx (k + m) (by omega) (by omega) _ (Array.getElem?_eq_getElem hs))
    rw [show k + (m + 1) = k + m + 1 by omega]
    exact ⟨h3.trans h1, h4.trans h2⟩
theorem isStore_heap {o : Op} (h : isStore o = true) : isHeap o = true := by
  unfold isStore at h
  split at h
  · rfl
  · rfl
  · cases h
/-- 'append' turns no variable. -/
theorem append_boxes {s s2 : St} {args : Array Operand} {tys : Array TypeId} {av : AV} (h : xs C true s (.call { callee := .builtin .append, args := args, argTypes := tys }) pairK = some (av, s2)) : s2.boxes = s.boxes := by
  have fin : ∀ {v : AV} {q : St}, pairK v q = some (av, s2) → q.boxes = s.boxes → s2.boxes = s.boxes := fun h1 h2 => by
    have h1 := Option.some.inj h1
    simp only [Prod.mk.injEq] at h1
    rw [← h1.2]; exact h2
  simp only [xs] at h
  split at h
  · split at h
    · split at h
      · split at h
        · split at h
          · obtain ⟨z, _, h⟩ := Option.bind_eq_some_iff.1 h
            exact fin h rfl
          · obtain ⟨z, _, h⟩ := Option.bind_eq_some_iff.1 h
            exact fin h rfl
          · split at h
            · obtain ⟨z, _, h⟩ := Option.bind_eq_some_iff.1 h
              exact fin h rfl
            · cases h
          · cases h
        · cases h
      · cases h
    · cases h
  · cases h
theorem DR.stillB (h : DR C ops sI S idf) {k : Nat} {o : Oper} (hk : ops[k]? = some o) (hh : isStore o.op = false) : (S (k + 1)).boxes = (S k).boxes := by
  cases hhp : isHeap o.op with
  | false => exact (h.still hk hhp).1
  | true =>
    have hs := h.stp k o hk
    generalize S (k + 1) = s1 at hs
    cases hs with
    | alloc ha => rfl
    | skip ha hg => rw [St.put_boxes]; exact hg.same.1
    | exec ha hg hx =>
      rw [St.put_boxes]
      refine Eq.trans ?_ hg.same.1
      cases ho : o.op with
      | store t a x => rw [ho] at hh; cases hh
      | call c =>
        rw [ho] at hh hhp hx
        cases c with
        | mk callee args tys =>
          cases callee with
          | builtin b =>
            cases b <;> first | (cases hh; done) | (cases hhp; done) | exact append_boxes hx
          | _ => cases hhp
      | _ => rw [ho] at hhp; cases hhp
theorem DR.stillsB (h : DR C ops sI S idf) {k : Nat} : ∀ (m : Nat), k + m ≤ ops.size → (∀ x, k ≤ x → x < k + m → ∀ o, ops[x]? = some o → isStore o.op = false) → (S (k + m)).boxes = (S k).boxes
  | 0, _, _ => rfl
  | m + 1, hm, hx => by
    have h1 := h.stillsB m (by omega) (fun x a b => hx x a (by omega))
    have hs : k + m < ops.size := by omega
    have h3 := h.stillB (Array.getElem?_eq_getElem hs) (hx (k + m) (by omega) (by omega) _ (Array.getElem?_eq_getElem hs))
    rw [show k + (m + 1) = k + m + 1 by omega]
    exact h3.trans h1
theorem DR.eqv1 (h : DR C ops sI S idf) {k : Nat} {o : Oper} (hk : ops[k]? = some o) {t : Nat} (hd : isAlloc o.op = false → o.dst ≠ some t) : Eqv ((S k).tmps.getD t .junk) ((S (k + 1)).tmps.getD t .junk) := by
  have hs := h.stp k o hk
  generalize S (k + 1) = s1 at hs
  cases hs with
  | alloc ha => exact Eqv.refl _
  | exec ha hg hx =>
    rename_i s' s2 av
    rw [put_getD, if_neg (fun hh => hd ha hh.1), (xs_pair hx).1]
    exact hg.same.2.2.2 t
  | skip ha hg =>
    rw [put_getD, if_neg (fun hh => hd ha hh.1)]
    exact hg.same.2.2.2 t
theorem DR.eqv (h : DR C ops sI S idf) {k t : Nat} : ∀ (m : Nat), k + m ≤ ops.size → (∀ x, k ≤ x → x < k + m → ∀ o, ops[x]? = some o → isAlloc o.op = false → o.dst ≠ some t) → Eqv ((S k).tmps.getD t .junk) ((S (k + m)).tmps.getD t .junk)
  | 0, _, _ => Eqv.refl _
  | m + 1, hm, hx => by
    have h1 := h.eqv m (by omega) (fun x a b => hx x a (by omega))
    have hs : k + m < ops.size := by omega
    exact h1.trans (h.eqv1 (Array.getElem?_eq_getElem hs) (hx (k + m) (by omega) (by omega) _ (Array.getElem?_eq_getElem hs)))
theorem DR.len (h : DR C ops sI S idf) : ∀ (k : Nat), k ≤ ops.size → (S k).tmps.length = sI.tmps.length
  | 0, _ => h.made.len
  | k + 1, hk => by
    have hs : k < ops.size := by omega
    have ih := h.len k (by omega)
    have hst := h.stp k _ (Array.getElem?_eq_getElem hs)
    generalize S (k + 1) = s1 at hst
    cases hst with
    | alloc ha => exact ih
    | exec ha hg hx => rw [put_len, (xs_pair hx).1, hg.same.2.2.1, ih]
    | skip ha hg => rw [put_len, hg.same.2.2.1, ih]
open Classical in
/-- What is known when those of 'L' have come up. -/
structure Inv (P : Program) (C : Ctx) (ops : Array Oper) (sI : St) (S : Nat → St) (idf : Nat → Nat) (w0 : World) (σ0 : Nat → Nat → Prop) (ρ1 : Env) (σ1 : Nat → Nat → Prop) (w1 : World) (aa : Act) (L : Array Bool) (a : Act) (w : World) (ρ : Env) (σ : Nat → Nat → Prop) (κ : Nat) : Prop where
  size : L.size = ops.size
  closed : Closed ops L
  kle : κ ≤ ops.size
  kap : ∀ (i : Nat) o, ops[i]? = some o → isHeap o.op = true → (L.getD i false = true ↔ i < κ)
  tsz : a.tmps.size = sI.tmps.length
  tmp : ∀ t, (∀ (i : Nat) o, ops[i]? = some o → o.dst = some t → L.getD i false = true) → RA ρ w0.heap.size σ w ((S ops.size).tmps.getD t .junk) (a.tmps.getD t undef)
  tmp0 : ∀ t, (∀ (i : Nat) o, ops[i]? = some o → o.dst = some t → L.getD i false = false) → RA ρ w0.heap.size σ w (sI.tmps.getD t .junk) (a.tmps.getD t undef)
  heap : HR P w0 σ0 ρ σ (fun b => if ∃ (i : Nat) (o : Oper), ops[i]? = some o ∧ isAlloc o.op = true ∧ idf i = b ∧ L.getD i false = false then none else (S κ).boxes[b]?) (S κ).alive w
  defers : a.defers = aa.defers
  mono : Mono ρ1 σ1 w1 ρ σ w
open Classical in
theorem Inv.ready {L : Array Bool} {a : Act} {w : World} {ρ ρ1 : Env} {σ σ1 : Nat → Nat → Prop} {w1 : World} {aa : Act} {κ : Nat} (hI : Inv P C ops sI S idf w0 σ0 ρ1 σ1 w1 aa L a w ρ σ κ) (h : DR C ops sI S idf) (hr : Region.ready .any ops L = []) :
    ∀ (i : Nat), i < ops.size → L.getD i false = true := by
  intro i
  induction i using Nat.strongRecOn with
  | _ i ih =>
    intro hi
    cases hL : L.getD i false with
    | true => rfl
    | false =>
      exfalso
      have hm : i ∈ Region.ready .any ops L := by
        unfold Region.ready
        rw [List.mem_filter]
        refine ⟨List.mem_range.2 hi, ?_⟩
        have hLt : L.getD i true = false := by
          have hs : i < L.size := by rw [hI.size]; exact hi
          simp only [Array.getD, hs, dif_pos] at hL ⊢
          exact hL
        rw [hLt, Array.getElem?_eq_getElem hi]
        simp only [Bool.not_false, Bool.true_and, Option.map_some, Option.getD_some]
        rw [← Array.all_toList, List.all_eq_true]
        intro e he
        cases hb : Region.binds .any e with
        | false => simp
        | true =>
          have := h.edge i _ (Array.getElem?_eq_getElem hi) e (List.mem_filter.2 ⟨he, hb⟩)
          rw [ih e.on this.2 (Nat.lt_trans this.2 hi)]
          simp
      rw [hr] at hm; cases hm
theorem not_box {L : Array Bool} {i : Nat} {o : Oper} (hi : ops[i]? = some o) (hl : L.getD i false = false) (hs : L.size = ops.size) (j : Nat) : (L.setIfInBounds i true).getD j false = (if j = i then true else L.getD j false) := by
  have hlt : i < L.size := by rw [hs]; exact (Array.getElem?_eq_some_iff.1 hi).1
  rw [Array.getD_eq_getD_getElem?, Array.getD_eq_getD_getElem?, Array.getElem?_setIfInBounds]
  by_cases h : i = j
  · subst h; rw [if_pos rfl, if_pos rfl, if_pos hlt]; rfl
  · rw [if_neg h, if_neg (fun e => h e.symm)]
theorem RA.of_eqv {ρ : Env} {base : Nat} {σ : Nat → Nat → Prop} {w : World} {x y : AV} {v : Value} (h : Eqv x y) (g : RA ρ base σ w y v) : RA ρ base σ w x v := (h ρ base σ w v).2 g
end Go.Proofs.Ytnhogpbibcgpkaa.Xe
