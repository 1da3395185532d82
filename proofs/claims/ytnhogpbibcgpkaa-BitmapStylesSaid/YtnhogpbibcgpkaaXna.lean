/- The executor: operations that turn the heap. -/
import Derived.Test.YtnhogpbibcgpkaaXma
namespace Go.Proofs.Ytnhogpbibcgpkaa.Xe
open Go Go.RowKit
set_option linter.unusedVariables false
set_option linter.unusedSimpArgs false
variable {P : Program} {R : Type} {w0 : World} {σ0 : Nat → Nat → Prop} {ρ : Env} {σ : Nat → Nat → Prop} {w : World} {r : R}
/-- The executor's state and the machine's. -/
structure Rel (P : Program) (w0 : World) (σ0 : Nat → Nat → Prop) (ρ : Env) (σ : Nat → Nat → Prop) (s : St) (a : Act) (w : World) : Prop where
  tmps : RAs ρ w0.heap.size σ w s.tmps a.tmps.toList
  heap : HR P w0 σ0 ρ σ (fun b => s.boxes[b]?) s.alive w
theorem ev_sound {base : Nat} {s : St} {a : Act} (h : RAs ρ base σ w s.tmps a.tmps.toList) (x : Operand) : RA ρ base σ w (ev s x) (a.eval x) := by
  cases x with
  | tmp t =>
    have := h.getD t
    show RA ρ base σ w (s.tmps.getD t .junk) (a.tmps.getD t undef)
    rw [show a.tmps.getD t undef = a.tmps.toList.getD t undef by simp [List.getD_eq_getElem?_getD]]
    exact this
  | const v => exact RA.ofV v
  | global g => trivial
  | func f => exact ⟨#[], rfl, rfl⟩
/-- What an operation leaves. -/
def XOut (P : Program) (w0 : World) (σ0 : Nat → Nat → Prop) (ρ : Env) (σ : Nat → Nat → Prop) (w : World) (K : AV → St → Option R) (r : R) (s : St) (o : Oper) (a : Act) : Act → World → Prop :=
  fun a' w' => ∃ av s' v ρ' σ', K av s' = some r ∧ a' = a.put o.dst v ∧ s'.tmps = s.tmps ∧ RA ρ' w0.heap.size σ' w' av v ∧ Mono ρ σ w ρ' σ' w' ∧ HR P w0 σ0 ρ' σ' (fun b => s'.boxes[b]?) s'.alive w'
theorem xout_of_out {s : St} {K : AV → St → Option R} {o : Oper} {a : Act} {Q : Exit → Act → World → Prop} (hH : HR P w0 σ0 ρ σ (fun b => s.boxes[b]?) s.alive w) (h : o.wp P a w (Out ρ w0.heap.size σ w (fun v => K v s) r o a) Q) :
    o.wp P a w (XOut P w0 σ0 ρ σ w K r s o a) Q :=
  Oper.wp_mono (fun a' w' ⟨av, v, σ', h1, h2, h3, h4⟩ => ⟨av, s, v, ρ, σ', h1, h2, rfl, h3, hH.mono h4, hH.grow h4⟩) h
theorem xout_run {s : St} {K : AV → St → Option R} {o : Oper} {a : Act} {Q : Exit → Act → World → Prop} {nx : Next} {v : Value} {w' : World} (hr : (execOp a.eval o).run P w = .ok nx w') (hn : nx = .value v ∨ (nx = .skip ∧ v = undef)) {av : AV} {s' : St} {ρ' : Env} {σ' : Nat → Nat → Prop}
    (h1 : K av s' = some r) (h2 : s'.tmps = s.tmps) (h3 : RA ρ' w0.heap.size σ' w' av v) (h4 : Mono ρ σ w ρ' σ' w') (h5 : HR P w0 σ0 ρ' σ' (fun b => s'.boxes[b]?) s'.alive w') : o.wp P a w (XOut P w0 σ0 ρ σ w K r s o a) Q := by
  unfold Oper.wp
  rw [hr]
  rcases hn with rfl | ⟨rfl, rfl⟩
  · exact ⟨av, s', v, ρ', σ', h1, rfl, h2, h3, h4, h5⟩
  · exact ⟨av, s', undef, ρ', σ', h1, rfl, h2, h3, h4, h5⟩
theorem boxes_push (l : List (List AV)) (c : List AV) (b : Nat) : (if b = l.length then some c else l[b]?) = (l ++ [c])[b]? := by
  rw [List.getElem?_append]
  by_cases h : b < l.length
  · rw [if_neg (by omega), if_pos h]
  · rw [if_neg h]
    by_cases h2 : b = l.length
    · rw [if_pos h2, h2]; simp
    · rw [if_neg h2, List.getElem?_eq_none (by omega), List.getElem?_eq_none (by simp; omega)]
theorem boxes_set (l : List (List AV)) {i : Nat} (hi : i < l.length) (c : List AV) (b : Nat) : (if b = i then some c else l[b]?) = (l.set i c)[b]? := by
  rw [List.getElem?_set]
  by_cases h : b = i
  · rw [if_pos h, h, if_pos rfl, if_pos hi]
  · rw [if_neg h, if_neg (fun e => h e.symm)]
theorem alloc_wp {C : Ctx} (hT : TabOk P C.T) {s : St} {K : AV → St → Option R} {o : Oper} {a : Act} {Q : Exit → Act → World → Prop} {e : TypeId} (ho : o.op = .alloc e) (hH : HR P w0 σ0 ρ σ (fun b => s.boxes[b]?) s.alive w)
    (hk : (C.ti e).d.known = true) (h : K (.ptr s.boxes.length 0) { s with boxes := s.boxes ++ [boxNew e (C.ti e).zero] } = some r) : o.wp P a w (XOut P w0 σ0 ρ σ w K r s o a) Q := by
  obtain ⟨i, z, kn⟩ := addr_pos (P := P) hT hk
  obtain ⟨h1, h2⟩ := hH.newObj (b0 := s.boxes.length) (cs := boxNew e (C.ti e).zero) (by simp) (.cells z.cells e) fun ρ' hm => by
    unfold boxNew
    split
    · rename_i hz
      rw [kn.cells] at hz
      obtain ⟨u, hu⟩ : ∃ u, z.cells = u := ⟨_, rfl⟩
      rw [hu] at hz ⊢
      match hl : u.toList, hz with
      | [a, b], hz =>
        simp only [List.map_cons, List.map_nil, List.cons.injEq, and_true] at hz
        have ha : a = .pointer none := by
          have := hz.1
          unfold ofLeaf at this
          split at this <;> first | rfl | cases this
        have hb : b = .slice none 0 0 := by
          have := hz.2
          unfold ofLeaf at this
          split at this <;> first | rfl | cases this
        have hu2 : u = #[.pointer none, .slice none 0 0] := by apply Array.ext'; rw [hl, ha, hb]
        rw [hu2]
        exact .fresh e rfl (heap_alloc_new w _)
      | [], hz => cases hz
      | [_], hz => simp at hz
      | _ :: _ :: _ :: _, hz => simp at hz
    · exact .cells z.cells e (heap_alloc_new w _) (by rw [kn.cells]; exact RAs.ofLeaf _)
  refine xout_run (nx := .value (.pointer (some ⟨w.heap.size, 0, none⟩))) (w' := w.alloc (.cells z.cells e)) ?_ (.inl rfl) h rfl ⟨w.heap.size, ?_, rfl⟩ h1 (h2.congr (boxes_push _ _))
  · have hz := kn.zeroValue w
    simp [execOp, ho, Instr.alloc, hz, newVar, newRow]
  · show (if s.boxes.length = s.boxes.length then _ else _) = _
    rw [if_pos rfl]
theorem box_wp {s : St} {K : AV → St → Option R} {o : Oper} {a : Act} {Q : Exit → Act → World → Prop} {e : TypeId} {x : Operand} (ho : o.op = .box e x) (hH : HR P w0 σ0 ρ σ (fun b => s.boxes[b]?) s.alive w)
    (hx : (ev s x).cells.all AV.leaf = true) (gx : RA ρ w0.heap.size σ w (ev s x) (a.eval x)) (h : K (.ptr s.boxes.length 0) { s with boxes := s.boxes ++ [(ev s x).cells] } = some r) : o.wp P a w (XOut P w0 σ0 ρ σ w K r s o a) Q := by
  obtain ⟨h1, h2⟩ := hH.newBox (b0 := s.boxes.length) (cs := (ev s x).cells) (vs := (a.eval x).cells) (by simp) e (RA.cells hx gx)
  refine xout_run (nx := .value (.pointer (some ⟨w.heap.size, 0, none⟩))) (w' := w.alloc (.cells (a.eval x).cells e)) ?_ (.inl rfl) h rfl ⟨w.heap.size, ?_, rfl⟩ h1 (h2.congr (boxes_push _ _))
  · simp [execOp, ho, Instr.box, newVar, newRow]
  · show (if s.boxes.length = s.boxes.length then _ else _) = _
    rw [if_pos rfl]
theorem RA.ones {base : Nat} : ∀ {cs : List AV} {vs : List Value}, cs.all AV.leaf = true → RAs ρ base σ w cs vs → ∀ v ∈ vs, v.oneCell' = true
  | [], _, _, h, v, hv => by rw [show _ = _ from h] at hv; cases hv
  | c :: cs, _, ha, ⟨u, q, e, g, k⟩, v, hv => by
    rw [List.all_cons, Bool.and_eq_true] at ha
    rw [e] at hv
    rcases List.mem_cons.1 hv with rfl | hv
    · exact (RA.one ha.1 g).1
    · exact RA.ones ha.2 k v hv
theorem store_wp {C : Ctx} (hT : TabOk P C.T) {s : St} {K : AV → St → Option R} {o : Oper} {a : Act} {Q : Exit → Act → World → Prop} {t : TypeId} {y x : Operand} {b i : Nat} {cs : List AV} (ho : o.op = .store t y x) (hH : HR P w0 σ0 ρ σ (fun b => s.boxes[b]?) s.alive w)
    (hy : ev s y = .ptr b i) (hb : s.boxes[b]? = some cs) (hk : (C.ti t).d.known = true) (hl : (ev s x).cells.length = (C.ti t).size) (hx : (ev s x).cells.all AV.leaf = true) (hfit : i + (C.ti t).size ≤ cs.length) (hpl : cs.all AV.plain = true)
    (gy : RA ρ w0.heap.size σ w (ev s y) (a.eval y)) (gx : RA ρ w0.heap.size σ w (ev s x) (a.eval x))
    (h : K (.tup []) { s with boxes := s.boxes.set b (cs.take i ++ (ev s x).cells ++ cs.drop (i + (C.ti t).size)) } = some r) : o.wp P a w (XOut P w0 σ0 ρ σ w K r s o a) Q := by
  obtain ⟨it, z, kn⟩ := addr_pos (P := P) hT hk
  obtain ⟨β, h1, hbx⟩ := hH.box b cs hb
  obtain ⟨us, e, h2, h3⟩ := hbx.plain hpl
  rw [hy] at gy
  obtain ⟨β', h1', ey⟩ := gy
  rw [h1] at h1'
  obtain rfl := Option.some.inj h1'
  have gc := RA.cells hx gx
  have hvl : (a.eval x).cells.size = (C.ti t).size := by rw [← Array.length_toList, gc.length, hl]
  have hus : us.toList.length = cs.length := h3.length
  have hst := run_storeCells_at P β i e (a.eval x).cells.toList 0 us w h2 (by rw [Array.length_toList, hvl, ← Array.length_toList, hus]; simpa using hfit) (RA.ones hx gc)
  simp only [Nat.add_zero] at hst
  have hb' : b < s.boxes.length := (List.getElem?_eq_some_iff.1 hb).1
  obtain ⟨m1, m2⟩ := hH.setBox h1 h2 (cs := cs.take i ++ (ev s x).cells ++ cs.drop (i + (C.ti t).size)) (vs := (us.toList.take i ++ (a.eval x).cells.toList ++ us.toList.drop (i + (a.eval x).cells.toList.length)).toArray) (by
    simp only [List.append_assoc, Array.length_toList, hvl]
    exact (h3.take i).append (gc.append (h3.drop _)))
  refine xout_run (nx := .skip) (v := undef) ?_ (.inr ⟨rfl, rfl⟩) h rfl ⟨#[], rfl, rfl⟩ m1 (m2.congr (boxes_set _ hb' _))
  have hs := kn.sizeOf w
  simp only [execOp, ho, ey, Instr.storeAt, Instr.sureAddr, storeVar, Sem.run_bind, Sem.run_pure, Result.andThen_ok, hs, hvl, ne_eq, not_true_eq_false, if_false, hst]
end Go.Proofs.Ytnhogpbibcgpkaa.Xe
