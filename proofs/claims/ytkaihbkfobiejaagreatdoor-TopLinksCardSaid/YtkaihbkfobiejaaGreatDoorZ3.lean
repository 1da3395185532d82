import Derived.Test.YtkaihbkfobiejaaGreatDoorZ2
import Derived.Laws.OwnMore
import Derived.Laws.CopyRow
import Derived.Tactics
namespace Go.Proofs.YtkaihbkfobiejaaGreatDoor.Xe
open Go Go.RowKit
set_option linter.unusedVariables false
set_option linter.unusedSimpArgs false
variable {P : Program} {R : Type} {w0 : World} {σ0 : Nat → Nat → Prop} {ρ : Env} {σ : Nat → Nat → Prop} {w : World} {r : R}
structure Rel (P : Program) (w0 : World) (σ0 : Nat → Nat → Prop) (ρ : Env) (σ : Nat → Nat → Prop) (s : St) (a : Act) (w : World) : Prop where
 tmps : RAs ρ w0.heap.size σ w s.tmps a.tmps.toList
 heap : HR P w0 σ0 ρ σ (fun b => s.boxes[b]?) s.alive w
theorem ev_sound {base : Nat} {s : St} {a : Act} (h : RAs ρ base σ w s.tmps a.tmps.toList) (x : Operand) : RA ρ base σ w (ev s x) (a.eval x) := by
 cases x with
 | tmp t =>
  have := h.getD t
  show RA ρ base σ w (s.tmps.getD t .junk) (a.tmps.getD t undef)
  rw [show a.tmps.getD t undef = a.tmps.toList.getD t undef by simp [List.getD_eq_getElem?_getD]]
  exact this
 | const v => exact RA.ofV v
 | global g => trivial
 | func f => exact ⟨#[], rfl, rfl⟩
def XOut (P : Program) (w0 : World) (σ0 : Nat → Nat → Prop) (ρ : Env) (σ : Nat → Nat → Prop) (w : World) (K : AV → St → Option R) (r : R) (s : St) (o : Oper) (a : Act) : Act → World → Prop :=
 fun a' w' => ∃ av s' v ρ' σ', K av s' = some r ∧ a' = a.put o.dst v ∧ s'.tmps = s.tmps ∧ RA ρ' w0.heap.size σ' w' av v ∧ Mono ρ σ w ρ' σ' w' ∧ HR P w0 σ0 ρ' σ' (fun b => s'.boxes[b]?) s'.alive w'
theorem xout_of_out {s : St} {K : AV → St → Option R} {o : Oper} {a : Act} {Q : Exit → Act → World → Prop} (hH : HR P w0 σ0 ρ σ (fun b => s.boxes[b]?) s.alive w) (h : o.wp P a w (Out ρ w0.heap.size σ w (fun v => K v s) r o a) Q) :
  o.wp P a w (XOut P w0 σ0 ρ σ w K r s o a) Q :=
 Oper.wp_mono (fun a' w' ⟨av, v, σ', h1, h2, h3, h4⟩ => ⟨av, s, v, ρ, σ', h1, h2, rfl, h3, hH.mono h4, hH.grow h4⟩) h
theorem xout_run {s : St} {K : AV → St → Option R} {o : Oper} {a : Act} {Q : Exit → Act → World → Prop} {nx : Next} {v : Value} {w' : World} (hr : (execOp a.eval o).run P w = .ok nx w') (hn : nx = .value v ∨ (nx = .skip ∧ v = undef)) {av : AV} {s' : St} {ρ' : Env} {σ' : Nat → Nat → Prop}
  (h1 : K av s' = some r) (h2 : s'.tmps = s.tmps) (h3 : RA ρ' w0.heap.size σ' w' av v) (h4 : Mono ρ σ w ρ' σ' w') (h5 : HR P w0 σ0 ρ' σ' (fun b => s'.boxes[b]?) s'.alive w') : o.wp P a w (XOut P w0 σ0 ρ σ w K r s o a) Q := by
 unfold Oper.wp
 rw [hr]
 rcases hn with rfl | ⟨rfl, rfl⟩
 ·exact ⟨av, s', v, ρ', σ', h1, rfl, h2, h3, h4, h5⟩
 ·exact ⟨av, s', undef, ρ', σ', h1, rfl, h2, h3, h4, h5⟩
theorem boxes_push (l : List (List AV)) (c : List AV) (b : Nat) : (if b = l.length then some c else l[b]?) = (l ++ [c])[b]? := by
 rw [List.getElem?_append]
 by_cases h : b < l.length
 ·rw [if_neg (by omega), if_pos h]
 ·rw [if_neg h]
  by_cases h2 : b = l.length
  ·rw [if_pos h2, h2]; simp
  ·rw [if_neg h2, List.getElem?_eq_none (by omega), List.getElem?_eq_none (by simp; omega)]
theorem boxes_set (l : List (List AV)) {i : Nat} (hi : i < l.length) (c : List AV) (b : Nat) : (if b = i then some c else l[b]?) = (l.set i c)[b]? := by
 rw [List.getElem?_set]
 by_cases h : b = i
 ·rw [if_pos h, h, if_pos rfl, if_pos hi]
 ·rw [if_neg h, if_neg (fun e => h e.symm)]
theorem alloc_wp {C : Ctx} (hT : TabOk P C.T) {s : St} {K : AV → St → Option R} {o : Oper} {a : Act} {Q : Exit → Act → World → Prop} {e : TypeId} (ho : o.op = .alloc e) (hH : HR P w0 σ0 ρ σ (fun b => s.boxes[b]?) s.alive w)
  (hk : (C.ti e).d.known = true) (h : K (.ptr s.boxes.length 0) { s with boxes := s.boxes ++ [boxNew e (C.ti e).zero] } = some r) : o.wp P a w (XOut P w0 σ0 ρ σ w K r s o a) Q := by
 obtain ⟨i, z, kn⟩ := addr_pos (P := P) hT hk
 obtain ⟨h1, h2⟩ := hH.newObj (b0 := s.boxes.length) (cs := boxNew e (C.ti e).zero) (by simp) (.cells z.cells e) fun ρ' hm => by
  unfold boxNew
  split
  ·rename_i hz
   rw [kn.cells] at hz
   obtain ⟨u, hu⟩ : ∃ u, z.cells = u := ⟨_, rfl⟩
   rw [hu] at hz ⊢
   match hl : u.toList, hz with
   | [a, b], hz =>
    simp only [List.map_cons, List.map_nil, List.cons.injEq, and_true] at hz
    have ha : a = .pointer none := by
     have := hz.1
     unfold ofLeaf at this
     split at this <;> first | rfl | cases this
    have hb : b = .slice none 0 0 := by
     have := hz.2
     unfold ofLeaf at this
     split at this <;> first | rfl | cases this
    have hu2 : u = #[.pointer none, .slice none 0 0] := by apply Array.ext'; rw [hl, ha, hb]
    rw [hu2]
    exact .fresh e rfl (heap_alloc_new w _)
   | [], hz => cases hz
   | [_], hz => simp at hz
   | _ :: _ :: _ :: _, hz => simp at hz
  ·exact .cells z.cells e (heap_alloc_new w _) (by rw [kn.cells]; exact RAs.ofLeaf _)
 refine xout_run (nx := .value (.pointer (some ⟨w.heap.size, 0, none⟩))) (w' := w.alloc (.cells z.cells e)) ?_ (.inl rfl) h rfl ⟨w.heap.size, ?_, rfl⟩ h1 (h2.congr (boxes_push _ _))
 ·have hz := kn.zeroValue w
  simp [execOp, ho, Instr.alloc, hz, newVar, newRow]
 ·show (if s.boxes.length = s.boxes.length then _ else _) = _
  rw [if_pos rfl]
theorem box_wp {s : St} {K : AV → St → Option R} {o : Oper} {a : Act} {Q : Exit → Act → World → Prop} {e : TypeId} {x : Operand} (ho : o.op = .box e x) (hH : HR P w0 σ0 ρ σ (fun b => s.boxes[b]?) s.alive w)
  (hx : (ev s x).cells.all AV.leaf = true) (gx : RA ρ w0.heap.size σ w (ev s x) (a.eval x)) (h : K (.ptr s.boxes.length 0) { s with boxes := s.boxes ++ [(ev s x).cells] } = some r) : o.wp P a w (XOut P w0 σ0 ρ σ w K r s o a) Q := by
 obtain ⟨h1, h2⟩ := hH.newBox (b0 := s.boxes.length) (cs := (ev s x).cells) (vs := (a.eval x).cells) (by simp) e (RA.cells hx gx)
 refine xout_run (nx := .value (.pointer (some ⟨w.heap.size, 0, none⟩))) (w' := w.alloc (.cells (a.eval x).cells e)) ?_ (.inl rfl) h rfl ⟨w.heap.size, ?_, rfl⟩ h1 (h2.congr (boxes_push _ _))
 ·simp [execOp, ho, Instr.box, newVar, newRow]
 ·show (if s.boxes.length = s.boxes.length then _ else _) = _
  rw [if_pos rfl]
theorem RA.ones {base : Nat} : ∀ {cs : List AV} {vs : List Value}, cs.all AV.leaf = true → RAs ρ base σ w cs vs → ∀ v ∈ vs, v.oneCell' = true
 | [], _, _, h, v, hv => by rw [show _ = _ from h] at hv; cases hv
 | c :: cs, _, ha, ⟨u, q, e, g, k⟩, v, hv => by
  rw [List.all_cons, Bool.and_eq_true] at ha
  rw [e] at hv
  rcases List.mem_cons.1 hv with rfl | hv
  ·exact (RA.one ha.1 g).1
  ·exact RA.ones ha.2 k v hv
theorem store_wp {C : Ctx} (hT : TabOk P C.T) {s : St} {K : AV → St → Option R} {o : Oper} {a : Act} {Q : Exit → Act → World → Prop} {t : TypeId} {y x : Operand} {b i : Nat} {cs : List AV} (ho : o.op = .store t y x) (hH : HR P w0 σ0 ρ σ (fun b => s.boxes[b]?) s.alive w)
  (hy : ev s y = .ptr b i) (hb : s.boxes[b]? = some cs) (hk : (C.ti t).d.known = true) (hl : (ev s x).cells.length = (C.ti t).size) (hx : (ev s x).cells.all AV.leaf = true) (hfit : i + (C.ti t).size ≤ cs.length) (hpl : cs.all AV.plain = true)
  (gy : RA ρ w0.heap.size σ w (ev s y) (a.eval y)) (gx : RA ρ w0.heap.size σ w (ev s x) (a.eval x))
  (h : K (.tup []) { s with boxes := s.boxes.set b (cs.take i ++ (ev s x).cells ++ cs.drop (i + (C.ti t).size)) } = some r) : o.wp P a w (XOut P w0 σ0 ρ σ w K r s o a) Q := by
 obtain ⟨it, z, kn⟩ := addr_pos (P := P) hT hk
 obtain ⟨β, h1, hbx⟩ := hH.box b cs hb
 obtain ⟨us, e, h2, h3⟩ := hbx.plain hpl
 rw [hy] at gy
 obtain ⟨β', h1', ey⟩ := gy
 rw [h1] at h1'
 obtain rfl := Option.some.inj h1'
 have gc := RA.cells hx gx
 have hvl : (a.eval x).cells.size = (C.ti t).size := by rw [← Array.length_toList, gc.length, hl]
 have hus : us.toList.length = cs.length := h3.length
 have hst := run_storeCells_at P β i e (a.eval x).cells.toList 0 us w h2 (by rw [Array.length_toList, hvl, ← Array.length_toList, hus]; simpa using hfit) (RA.ones hx gc)
 simp only [Nat.add_zero] at hst
 have hb' : b < s.boxes.length := (List.getElem?_eq_some_iff.1 hb).1
 obtain ⟨m1, m2⟩ := hH.setBox h1 h2 (cs := cs.take i ++ (ev s x).cells ++ cs.drop (i + (C.ti t).size)) (vs := (us.toList.take i ++ (a.eval x).cells.toList ++ us.toList.drop (i + (a.eval x).cells.toList.length)).toArray) (by
  simp only [List.append_assoc, Array.length_toList, hvl]
  exact (h3.take i).append (gc.append (h3.drop _)))
 refine xout_run (nx := .skip) (v := undef) ?_ (.inr ⟨rfl, rfl⟩) h rfl ⟨#[], rfl, rfl⟩ m1 (m2.congr (boxes_set _ hb' _))
 have hs := kn.sizeOf w
 simp only [execOp, ho, ey, Instr.storeAt, Instr.sureAddr, storeVar, Sem.run_bind, Sem.run_pure, Result.andThen_ok, hs, hvl, ne_eq, not_true_eq_false, if_false, hst]
variable {P : Program} {R : Type} {w0 : World} {σ0 : Nat → Nat → Prop} {ρ : Env} {σ : Nat → Nat → Prop} {w : World} {r : R}
theorem madeCells_succ (z : Array Value) (n : Nat) (hz : 0 < z.size) : (madeCells z ((n + 1) * z.size)).toList = z.toList ++ (madeCells z (n * z.size)).toList := by
 apply List.ext_getElem?
 intro j
 have hmul : (n + 1) * z.size = n * z.size + z.size := by rw [Nat.add_mul, Nat.one_mul]
 rw [List.getElem?_append]
 by_cases hj : j < z.size
 ·rw [if_pos (by simpa using hj)]
  have h1 : j < (n + 1) * z.size := by omega
  simp [madeCells, h1, Nat.mod_eq_of_lt hj, hj]
 ·rw [if_neg (by simpa using hj)]
  by_cases h1 : j < (n + 1) * z.size
  ·have h2 : j - z.size < n * z.size := by omega
   have h3 : j % z.size = (j - z.size) % z.size := Nat.mod_eq_sub_mod (by omega)
   simp [madeCells, h1, h2, h3]
  ·have h2 : ¬ j - z.size < n * z.size := by omega
   simp [madeCells, h1, h2]
theorem RLs.made {u : Ty} {z : El u} {zc : Array Value} (hz : RE σ w u z zc.toList) (h0 : 0 < u.sz) : ∀ n, RLs (RE σ w u) (List.replicate n z) (madeCells zc (n * u.sz)).toList
 | 0 => by simp [madeCells]; rfl
 | n + 1 => by
  have hs : zc.size = u.sz := by have := hz.len; simpa using this
  refine ⟨zc.toList, _, ?_, hz, RLs.made hz h0 n⟩
  have := madeCells_succ zc n (by omega)
  rw [hs] at this
  exact this
theorem RLs.set {u : Ty} : ∀ {l : List (El u)} {cs ys : List Value} {j : Nat} {y : El u}, RLs (RE σ w u) l cs → j < l.length → RE σ w u y ys → RLs (RE σ w u) (l.set j y) (cs.take (j * u.sz) ++ ys ++ cs.drop (j * u.sz + ys.length))
 | [], _, _, _, _, _, h, _ => by simp at h
 | x :: l, cs, ys, 0, y, ⟨a, b, e, g, k⟩, _, hy => by
  refine ⟨ys, b, ?_, hy, k⟩
  rw [e, hy.len]
  simp only [Nat.zero_mul, List.take_zero, List.nil_append, Nat.zero_add]
  rw [← g.len, List.drop_left]
 | x :: l, cs, ys, j + 1, y, ⟨a, b, e, g, k⟩, hj, hy => by
  refine ⟨a, _, ?_, g, RLs.set (j := j) k (by simpa using hj) hy⟩
  have h1 : (j + 1) * u.sz = a.length + j * u.sz := by rw [g.len, Nat.add_mul]; omega
  rw [e, h1, List.take_length_add_append, List.append_assoc, List.append_assoc, List.append_assoc, show a.length + j * u.sz + ys.length = a.length + (j * u.sz + ys.length) by omega, List.drop_length_add_append]
theorem RLs.over {u : Ty} {l m : List (El u)} {cs ms : List Value} {off k : Nat} (h : RLs (RE σ w u) l cs) (g : RLs (RE σ w u) m ms) (hk : k = m.length) : RLs (RE σ w u) (l.take off ++ m ++ l.drop (off + k)) (cs.take (off * u.sz) ++ ms ++ cs.drop (off * u.sz + ms.length)) := by
 have e : off * u.sz + ms.length = (off + k) * u.sz := by rw [g.len, Nat.add_mul, hk]
 rw [e]
 exact ((h.take' off).append g).append (h.drop' _)
theorem rowOf_some {s : St} {b : Nat} {u : Ty} {l : List (El u)} (h : rowOf s b = some ⟨u, l⟩) : s.boxes[b]? = some [.row u l] := by
 unfold rowOf at h
 split at h
 ·rename_i t l' hb
  simp only [Option.some.injEq, Sigma.mk.injEq] at h
  obtain ⟨rfl, h⟩ := h
  rw [hb, eq_of_heq h]
 ·cases h
theorem grown_setRow (w : World) (β : Nat) (vs : Array Value) : w.grownBy (w.setRow β vs) (some β) := ⟨rfl, rfl, rfl, by simp, fun k _ hk => setRow_other w β k vs (fun e => hk (by rw [e]))⟩
theorem make_wp {C : Ctx} (hT : TabOk P C.T) {s : St} {K : AV → St → Option R} {o : Oper} {a : Act} {Q : Exit → Act → World → Prop} {t e : TypeId} {n c : Operand} {u : Ty} {k k' : IntKind} {m : Int} {z : El u} (ho : o.op = .makeSlice t n c) (hH : HR P w0 σ0 ρ σ (fun b => s.boxes[b]?) s.alive w)
  (hd : (C.ti t).d = .sl e) (hk : (C.ti e).d.known = true) (hsz : u.sz = (C.ti e).size) (en : a.eval n = .int k m) (ec : a.eval c = .int k' m) (hz : dec u (C.ti e).zero = some (z, [])) (hb0 : 0 < (C.ti e).bytes)
  (h0 : 0 ≤ m) (hb : ((C.ti e).bytes : Int) * m ≤ 281474976710656) (h : K (.ms s.boxes.length u.sz 0 m.toNat) { s with boxes := s.boxes ++ [[.row u (List.replicate m.toNat z)]] } = some r) : o.wp P a w (XOut P w0 σ0 ρ σ w K r s o a) Q := by
 obtain ⟨i1, zt, kt⟩ := known (P := P) hT (t := t) (by rw [hd]; exact fun e => by cases e)
 have hut := und_sl (kt.desc.trans hd)
 obtain ⟨i2, ze, ke⟩ := addr_pos (P := P) hT hk
 obtain ⟨w', hr⟩ : ∃ w', w' = w.alloc (.cells (madeCells ze.cells (m.toNat * i2.size)) e) := ⟨_, rfl⟩
 have h63 : m ≤ 9223372036854775807 := by
  have h1 : (1 : Int) * m ≤ ((C.ti e).bytes : Int) * m := Int.mul_le_mul_of_nonneg_right (by omega) h0
  omega
 have hrun := run_make (P := P) w t e i2 ze hut ke.info ke.zero k k' m m h0 (Int.le_refl _) (by rw [ke.bytes]; exact hb) h63
 have hzc : RE σ w u z ze.cells.toList := by
  have := RAs.ofLeaf (ρ := ρ) (base := w0.heap.size) (σ := σ) (w := w) ze.cells.toList
  rw [← ke.cells] at this
  obtain ⟨x, y, e1, e2, e3⟩ := dec_sound hz this
  obtain rfl : y = [] := e3
  rw [e1, List.append_nil]; exact e2
 have key : RLs (RE σ w u) (List.replicate m.toNat z) (madeCells ze.cells (m.toNat * i2.size)).toList := by
  rw [ke.size, ← hsz]
  by_cases hu0 : u.sz = 0
  ·have hl0 : ∀ n, RLs (RE σ w u) (List.replicate n z) ([] : List Value) := fun n => by
    have hz0 : ze.cells.toList = [] := List.eq_nil_of_length_eq_zero (by rw [hzc.len, hu0])
    induction n with
    | zero => rfl
    | succ n ih => exact ⟨[], [], rfl, by rw [← hz0]; exact hzc, ih⟩
   rw [hu0, Nat.mul_zero]
   simpa [madeCells] using hl0 m.toNat
  ·exact RLs.made hzc (by omega) _
 obtain ⟨h1, h2⟩ := hH.newObj (b0 := s.boxes.length) (cs := [.row u (List.replicate m.toNat z)]) (by simp) (.cells (madeCells ze.cells (m.toNat * i2.size)) e) fun ρ' hm => .rows u _ _ e rfl (heap_alloc_new w _) (RLs.mono (fun _ _ => RE.mono hm.toKeeps) key)
 refine xout_run (nx := .value (.slice (some ⟨w.heap.size, 0, none⟩) m.toNat m.toNat)) ?_ (.inl rfl) h rfl ⟨_, _, rfl, Nat.le_refl _, .inr ⟨w.heap.size, 0, rfl, .inr ⟨?_, by simp⟩⟩⟩ h1 (h2.congr (boxes_push _ _))
 ·simp [execOp, ho, en, ec, hrun]
 ·show (if s.boxes.length = s.boxes.length then _ else _) = _
  rw [if_pos rfl]
theorem rowStore_wp {C : Ctx} (hT : TabOk P C.T) {s : St} {K : AV → St → Option R} {o : Oper} {a : Act} {Q : Exit → Act → World → Prop} {t : TypeId} {y x : Operand} {b sz j : Nat} {u : Ty} {l l' : List (El u)} {z : El u} (ho : o.op = .store t y x) (hH : HR P w0 σ0 ρ σ (fun b => s.boxes[b]?) s.alive w)
  (hy : ev s y = .mse b sz j) (hb : s.boxes[b]? = some [.row u l]) (hk : (C.ti t).d.known = true) (hs1 : u.sz = (C.ti t).size) (hs2 : sz = u.sz) (hx : (ev s x).cells.all AV.leaf = true) (hz : dec u (ev s x).cells = some (z, [])) (hl : lset l j z = some l')
  (gy : RA ρ w0.heap.size σ w (ev s y) (a.eval y)) (gx : RA ρ w0.heap.size σ w (ev s x) (a.eval x))
  (h : K (.tup []) { s with boxes := s.boxes.set b [.row u l'] } = some r) : o.wp P a w (XOut P w0 σ0 ρ σ w K r s o a) Q := by
 obtain ⟨it, zt, kn⟩ := addr_pos (P := P) hT hk
 obtain ⟨β, h1, hbx⟩ := hH.box b _ hb
 obtain ⟨us, e, h2, h3⟩ := hbx.row
 rw [hy] at gy
 obtain ⟨β', h1', ey⟩ := gy
 rw [h1] at h1'
 obtain rfl := Option.some.inj h1'
 unfold lset at hl
 split at hl
 ·rename_i hj
  obtain rfl := Option.some.inj hl
  have gc := RA.cells hx gx
  have hzc : RE σ w u z (a.eval x).cells.toList := by
   obtain ⟨x', y', e1, e2, e3⟩ := dec_sound hz gc
   obtain rfl : y' = [] := e3
   rw [e1, List.append_nil]; exact e2
  have hvl : (a.eval x).cells.size = u.sz := by have := hzc.len; simpa using this
  have hus : us.toList.length = l.length * u.sz := h3.len
  have hfit : j * u.sz + 0 + (a.eval x).cells.toList.length ≤ us.size := by
   rw [Array.length_toList, hvl, ← Array.length_toList, hus, Nat.add_zero]
   have : (j + 1) * u.sz ≤ l.length * u.sz := Nat.mul_le_mul_right _ hj
   rw [Nat.add_mul] at this; omega
  have hst := run_storeCells_at P β (j * u.sz) e (a.eval x).cells.toList 0 us w h2 hfit (RA.ones hx gc)
  simp only [Nat.add_zero] at hst
  have hb' : b < s.boxes.length := (List.getElem?_eq_some_iff.1 hb).1
  obtain ⟨m1, m2⟩ := hH.turn h1 (grown_setRow w β (us.toList.take (j * u.sz) ++ (a.eval x).cells.toList ++ us.toList.drop (j * u.sz + (a.eval x).cells.toList.length)).toArray) (cs := [.row u (l.set j z)]) fun hm =>
   .rows u _ _ e rfl (setRow_heap w β us _ e (0, 0) h2) (RLs.mono (fun _ _ => RE.mono hm.toKeeps) (by simpa using RLs.set h3 hj hzc))
  refine xout_run (nx := .skip) (v := undef) ?_ (.inr ⟨rfl, rfl⟩) h rfl ⟨#[], rfl, rfl⟩ m1 (m2.congr (boxes_set _ hb' _))
  have hs := kn.sizeOf w
  rw [← hs1] at hs
  simp only [execOp, ho, ey, Instr.storeAt, Instr.sureAddr, storeVar, Sem.run_bind, Sem.run_pure, Result.andThen_ok, hs, hvl, ne_eq, not_true_eq_false, if_false, hs2, hst]
 ·cases hl
theorem copy_none {t t' ty e : TypeId} {i : TypeInfo} {A : Option Addr} {n cap : Nat} {src : Value} (ht : P.underlying t = some (.slice e)) (hi : P.info? e = some i)
  (hs : (∃ B m c, src = .slice B m c ∧ min m n = 0) ∨ ∃ z, src = .string z ∧ min z.size n = 0) : (Builtin.copy_ #[t, t'] ty #[.slice A n cap, src]).run P w = .ok (goInt 0) w := by
 rcases hs with ⟨B, m, c, rfl, h0⟩ | ⟨z, rfl, h0⟩
 ·have h0 : Nat.min m n = 0 := h0
  cases A <;> cases B <;> simp [Builtin.copy_, run_underlying ht, Builtin.lenOf, h0, Builtin.firstCells, Go.sizeOf, typeInfo, hi, storeCells, loadCells, loadCellsFrom]
 ·have h0 : Nat.min z.size n = 0 := h0
  cases A <;> simp [Builtin.copy_, run_underlying ht, Builtin.lenOf, h0, Builtin.firstCells, Go.sizeOf, typeInfo, hi, storeCells]
theorem boxes_self (l : List (List AV)) {i : Nat} {c : List AV} (hi : l[i]? = some c) (b : Nat) : l[b]? = (l.set i c)[b]? := by
 rw [List.getElem?_set]
 by_cases h : i = b
 ·subst h; rw [if_pos rfl, if_pos (List.getElem?_eq_some_iff.1 hi).1, hi]
 ·rw [if_neg h]
theorem copyRow_wp {C : Ctx} (hT : TabOk P C.T) {s : St} {K : AV → St → Option R} {o : Oper} {a : Act} {Q : Exit → Act → World → Prop} {t t' e : TypeId} {x y : Operand} {b sz off n : Nat} {u : Ty} {l l' m : List (El u)}
  (ho : o.op = .call { callee := .builtin .copy, args := #[x, y], argTypes := #[t, t'] }) (hH : HR P w0 σ0 ρ σ (fun b => s.boxes[b]?) s.alive w) (hd : (C.ti t).d = .sl e) (hx : ev s x = .ms b sz off n) (hk : (C.ti e).d.known = true) (hs1 : sz = (C.ti e).size)
  (hb : s.boxes[b]? = some [.row u l]) (hs2 : sz = u.sz) (hm : listOf u (ev s y) = some m) (hl : lcopy l off n m = some l') (gx : RA ρ w0.heap.size σ w (ev s x) (a.eval x)) (gy : RA ρ w0.heap.size σ w (ev s y) (a.eval y))
  (h : K (.int .i64 ((min m.length n : Nat) : Int)) { s with boxes := s.boxes.set b [.row u l'] } = some r) : o.wp P a w (XOut P w0 σ0 ρ σ w K r s o a) Q := by
 obtain ⟨i1, zt, kt⟩ := known (P := P) hT (t := t) (by rw [hd]; exact fun e => by cases e)
 have hut := und_sl (kt.desc.trans hd)
 obtain ⟨i2, ze, ke⟩ := addr_pos (P := P) hT hk
 obtain ⟨β, h1, hbx⟩ := hH.box b _ hb
 obtain ⟨us, e', h2, h3⟩ := hbx.row
 rw [hx] at gx
 obtain ⟨A, cap, ex, hnc, hA⟩ := gx
 obtain ⟨B, c, ey, _, hB⟩ := row_at (listOf_sound hm gy)
 have hb' : b < s.boxes.length := (List.getElem?_eq_some_iff.1 hb).1
 unfold lcopy at hl
 split at hl
 ·rename_i hfit
  obtain rfl := Option.some.inj hl
  by_cases hk0 : min m.length n = 0
  ·have hrun := copy_none (P := P) (w := w) (t' := t') (ty := o.type) (A := A) (n := n) (cap := cap) hut ke.info (.inl ⟨B, m.length, c, ey, hk0⟩)
   have hl0 : l.take off ++ m.take n ++ l.drop (off + min m.length n) = l := by
    have : m.take n = [] := List.eq_nil_of_length_eq_zero (by rw [List.length_take]; omega)
    rw [this, List.append_nil, hk0, Nat.add_zero, List.take_append_drop]
   rw [hl0, hk0] at h
   refine xout_run (nx := .value (.int .i64 ((0 : Nat) : Int))) (w' := w) ?_ (.inl rfl) h rfl rfl Mono.refl (hH.congr (boxes_self _ hb))
   rw [← ex] at hrun
   simp [execOp, ho, resolve, invoke, builtin, hrun, goInt]
  ·have hn0 : n ≠ 0 := by omega
   have hm0 : m.length ≠ 0 := by omega
   obtain ⟨β', o', eA, hA2⟩ := hA.resolve_left (fun hh => hn0 hh.2)
   subst eA
   obtain ⟨h1', ho'⟩ := hA2.resolve_left hn0
   rw [h1] at h1'
   obtain rfl := Option.some.inj h1'
   rcases hB with hm' | ⟨γ, go, ms, rfl, g1, g2⟩
   ·exact absurd (by rw [hm']; rfl) hm0
   have g3 := g1.take' (min m.length n)
   have hml : (m.take (min m.length n)).length = min m.length n := by rw [List.length_take]; omega
   have hnl : (ms.take (min m.length n * u.sz)).length = min m.length n * u.sz := by rw [g3.len, hml]
   have hf := run_firstCells_some (P := P) w u.sz (min m.length n) ⟨γ, go, none⟩ m.length c (ms.take (min m.length n * u.sz)) hnl (fun j v hj => by rw [addr_add]; exact ((g2.take _) j v hj).2)
   have hus : us.toList.length = l.length * u.sz := h3.len
   have hfit2 : off * u.sz + 0 + (ms.take (min m.length n * u.sz)).length ≤ us.size := by
    rw [hnl, ← Array.length_toList, hus, Nat.add_zero, ← Nat.add_mul]
    exact Nat.mul_le_mul_right _ (by omega)
   have hst := run_storeCells_at P β (off * u.sz) e' (ms.take (min m.length n * u.sz)) 0 us w h2 hfit2 (RLs.one g3)
   simp only [Nat.add_zero] at hst
   have htk : m.take n = m.take (min m.length n) := by rw [List.take_eq_take_iff]; omega
   obtain ⟨m1, m2⟩ := hH.turn h1 (grown_setRow w β (us.toList.take (off * u.sz) ++ ms.take (min m.length n * u.sz) ++ us.toList.drop (off * u.sz + (ms.take (min m.length n * u.sz)).length)).toArray) (cs := [.row u (l.take off ++ m.take n ++ l.drop (off + min m.length n))]) fun hmm =>
    .rows u _ _ e' rfl (setRow_heap w β us _ e' (0, 0) h2) (RLs.mono (fun _ _ => RE.mono hmm.toKeeps) (by rw [htk]; simpa using RLs.over h3 g3 hml.symm))
   refine xout_run (nx := .value (.int .i64 ((min m.length n : Nat) : Int))) ?_ (.inl rfl) h rfl rfl m1 (m2.congr (boxes_set _ hb' _))
   have hs := ke.sizeOf w
   rw [← hs1, hs2] at hs
   have hmin : Nat.min m.length n = min m.length n := rfl
   rw [← hs2] at hst hf hs
   simp only [hs2] at hst hf hs ho' ⊢
   simp [execOp, ho, resolve, invoke, builtin, ex, ey, Builtin.copy_, run_underlying hut, Builtin.lenOf, hs, hmin, hf, ho', hst, goInt]
 ·cases hl
theorem overStr_spec (z : ByteArray) : ∀ {l c : List AV} {i : Nat}, overStr z i l = some c → c.length = l.length ∧ ∀ (j : Nat) (v : AV), l[j]? = some v → ∃ n, v = AV.int .u8 n ∧ c[j]? = some (AV.int .u8 (scopy z (i + j) n))
 | [], c, i, h => by obtain rfl := Option.some.inj h; exact ⟨rfl, fun j v hv => by simp at hv⟩
 | .int k n :: l, c, i, h => by
  cases k <;> simp only [overStr] at h <;> try (cases h; done)
  split at h
  ·rename_i l' hl'
   obtain rfl := Option.some.inj h
   obtain ⟨g1, g2⟩ := overStr_spec z hl'
   refine ⟨by simp [g1], fun j v hv => ?_⟩
   cases j with
   | zero => simp at hv; exact ⟨n, hv.symm, rfl⟩
   | succ j =>
    obtain ⟨n', e1, e2⟩ := g2 j v (by simpa using hv)
    exact ⟨n', e1, by rw [List.getElem?_cons_succ, e2, show i + 1 + j = i + (j + 1) by omega]⟩
  ·cases h
theorem RAs.snoc_get {as : List AV} {vs : List Value} {base : Nat} (h : RAs ρ base σ w as vs) {j : Nat} {v : Value} (hv : vs[j]? = some v) : ∃ a, as[j]? = some a ∧ RA ρ base σ w a v := by
 have hj : j < as.length := by rw [← h.length]; exact (List.getElem?_eq_some_iff.1 hv).1
 obtain ⟨u, hu, g⟩ := h.get (List.getElem?_eq_getElem hj)
 rw [hv] at hu
 obtain rfl := Option.some.inj hu
 exact ⟨_, List.getElem?_eq_getElem hj, g⟩
theorem copyStr_wp {C : Ctx} (hT : TabOk P C.T) {s : St} {K : AV → St → Option R} {o : Oper} {a : Act} {Q : Exit → Act → World → Prop} {t t' e : TypeId} {x y : Operand} {b sz off n : Nat} {cs c : List AV} {z : ByteArray}
  (ho : o.op = .call { callee := .builtin .copy, args := #[x, y], argTypes := #[t, t'] }) (hH : HR P w0 σ0 ρ σ (fun b => s.boxes[b]?) s.alive w) (hd : (C.ti t).d = .sl e) (hx : ev s x = .ms b sz off n) (hk : (C.ti e).d.known = true) (hs1 : sz = (C.ti e).size)
  (hs2 : sz = 1) (hy : ev s y = .str z) (hb : s.boxes[b]? = some cs) (hpl : cs.all AV.plain = true) (hfit : off + n ≤ cs.length) (hc : overStr z 0 ((cs.drop off).take n) = some c) (gx : RA ρ w0.heap.size σ w (ev s x) (a.eval x)) (gy : RA ρ w0.heap.size σ w (ev s y) (a.eval y))
  (h : K (.int .i64 ((min z.size n : Nat) : Int)) { s with boxes := s.boxes.set b (cs.take off ++ c ++ cs.drop (off + n)) } = some r) : o.wp P a w (XOut P w0 σ0 ρ σ w K r s o a) Q := by
 obtain ⟨i1, zt, kt⟩ := known (P := P) hT (t := t) (by rw [hd]; exact fun e => by cases e)
 have hut := und_sl (kt.desc.trans hd)
 obtain ⟨i2, ze, ke⟩ := addr_pos (P := P) hT hk
 obtain ⟨β, h1, hbx⟩ := hH.box b _ hb
 obtain ⟨us, e', h2, h3⟩ := hbx.plain hpl
 rw [hx] at gx
 obtain ⟨A, cap, ex, hnc, hA⟩ := gx
 rw [hy] at gy
 have ey : a.eval y = .string z := gy
 have hb' : b < s.boxes.length := (List.getElem?_eq_some_iff.1 hb).1
 obtain ⟨c1, c2⟩ := overStr_spec z hc
 have hlen : ((cs.drop off).take n).length = n := by rw [List.length_take, List.length_drop]; omega
 rw [hlen] at c1
 have hus : us.toList.length = cs.length := h3.length
 obtain ⟨cl, hcl⟩ : ∃ cl : List Value, cl = (z.data.toList.take (min z.size n)).map fun b => Value.int .u8 b.toNat := ⟨_, rfl⟩
 have hzl : z.data.toList.length = z.size := by simp
 have hcll : cl.length = min z.size n := by rw [hcl, List.length_map, List.length_take, hzl]; omega
 have hcells : RAs ρ w0.heap.size σ w (cs.take off ++ c ++ cs.drop (off + n)) (us.toList.take off ++ cl ++ us.toList.drop (off + cl.length)) := by
  refine RAs.mk ?_ fun j av v hj hv => ?_
  ·simp only [List.length_append, List.length_take, List.length_drop, hcll, c1, hus]; omega
  ·rw [List.append_assoc, List.getElem?_append] at hj hv
   have e1 : (cs.take off).length = off := by rw [List.length_take]; omega
   have e2 : (us.toList.take off).length = off := by rw [List.length_take]; omega
   rw [e1] at hj
   rw [e2] at hv
   by_cases hjo : j < off
   ·rw [if_pos hjo] at hj hv
    obtain ⟨v', hv', g⟩ := (h3.take off).get hj
    rw [hv'] at hv
    obtain rfl := Option.some.inj hv; exact g
   ·rw [if_neg hjo] at hj hv
    rw [List.getElem?_append] at hj hv
    rw [c1] at hj
    rw [hcll] at hv
    by_cases hjn : j - off < n
    ·rw [if_pos hjn] at hj
     have hjc : off + (j - off) < cs.length := by omega
     have hold : ((cs.drop off).take n)[j - off]? = some cs[off + (j - off)] := by
      rw [List.getElem?_take, if_pos hjn, List.getElem?_drop, List.getElem?_eq_getElem hjc]
     obtain ⟨m, e3, e4⟩ := c2 _ _ hold
     rw [e4, Nat.zero_add] at hj
     obtain rfl := Option.some.inj hj
     unfold scopy
     by_cases hz : j - off < z.size
     ·rw [if_pos (by omega : j - off < min z.size n)] at hv
      rw [if_pos hz]
      rw [hcl, List.getElem?_map, List.getElem?_take, if_pos (by omega), List.getElem?_eq_getElem (by rw [hzl]; exact hz)] at hv
      simp only [Option.map_some, Option.some.injEq] at hv
      rw [← hv]
      show Value.int _ _ = Value.int _ _
      congr 2
      have hz2 : j - off < z.data.size := hz
      simp [Array.getD, hz2]
      rw [dif_pos hz]
     ·rw [if_neg (by omega : ¬ j - off < min z.size n), List.getElem?_drop] at hv
      rw [if_neg hz]
      rw [show off + min z.size n + (j - off - min z.size n) = off + (j - off) by omega] at hv
      obtain ⟨a', ha', g⟩ := h3.snoc_get hv
      rw [List.getElem?_eq_getElem hjc, e3] at ha'
      obtain rfl := Option.some.inj ha'
      exact g
    ·rw [if_neg hjn, List.getElem?_drop] at hj
     rw [if_neg (by omega), List.getElem?_drop] at hv
     rw [show off + n + (j - off - n) = j by omega] at hj
     rw [show off + min z.size n + (j - off - min z.size n) = j by omega] at hv
     obtain ⟨v', hv', g⟩ := h3.get hj
     rw [hv'] at hv
     obtain rfl := Option.some.inj hv; exact g
 by_cases hk0 : min z.size n = 0
 ·have hrun := copy_none (P := P) (w := w) (t' := t') (ty := o.type) (A := A) (n := n) (cap := cap) hut ke.info (.inr ⟨z, rfl, hk0⟩)
  have hcl0 : cl = [] := List.eq_nil_of_length_eq_zero (by rw [hcll, hk0])
  rw [hcl0, List.append_nil, List.length_nil, Nat.add_zero, List.take_append_drop] at hcells
  rw [hk0] at h
  have hself : w.setRow β us = w := by rw [setRow_self w β us e' (0, 0) h2]
  obtain ⟨m1, m2⟩ := hH.turn h1 (grown_setRow w β us) (cs := cs.take off ++ c ++ cs.drop (off + n)) fun hm => .cells us e' (by rw [hself]; exact h2) (by rw [hself]; exact hcells)
  rw [hself] at m1 m2
  refine xout_run (nx := .value (.int .i64 ((0 : Nat) : Int))) (w' := w) ?_ (.inl rfl) h rfl rfl m1 (m2.congr (boxes_set _ hb' _))
  rw [← ex, ← ey] at hrun
  simp [execOp, ho, resolve, invoke, builtin, hrun, goInt]
 ·have hn0 : n ≠ 0 := by omega
  obtain ⟨β', o', eA, hA2⟩ := hA.resolve_left (fun hh => hn0 hh.2)
  subst eA
  obtain ⟨h1', ho'⟩ := hA2.resolve_left hn0
  rw [h1] at h1'
  obtain rfl := Option.some.inj h1'
  rw [hs2, Nat.mul_one] at ho'
  have hone : ∀ v ∈ cl, v.oneCell' = true := fun v hv => by rw [hcl] at hv; obtain ⟨x, _, rfl⟩ := List.mem_map.1 hv; rfl
  have hst := run_storeCells_at P β off e' cl 0 us w h2 (by rw [hcll, ← Array.length_toList, hus]; omega) hone
  simp only [Nat.add_zero] at hst
  obtain ⟨m1, m2⟩ := hH.setBox h1 h2 (cs := cs.take off ++ c ++ cs.drop (off + n)) (vs := (us.toList.take off ++ cl ++ us.toList.drop (off + cl.length)).toArray) (by simpa using hcells)
  refine xout_run (nx := .value (.int .i64 ((min z.size n : Nat) : Int))) ?_ (.inl rfl) h rfl rfl m1 (m2.congr (boxes_set _ hb' _))
  have hs := ke.sizeOf w
  rw [← hs1, hs2] at hs
  have hmin : Nat.min z.size n = min z.size n := rfl
  have hf : (Builtin.firstCells 1 (min z.size n) (.string z)).run P w = .ok cl.toArray w := by
   simp only [Builtin.firstCells, Sem.run_pure]
   congr 1
   apply Array.ext'
   rw [hcl]
   simp [ByteArray.data_extract]
  simp [execOp, ho, resolve, invoke, builtin, ex, ey, Builtin.copy_, run_underlying hut, Builtin.lenOf, hs, hmin, hf, ho', hst, goInt]
variable {P : Program} {R : Type} {w0 : World} {σ0 : Nat → Nat → Prop} {ρ : Env} {σ : Nat → Nat → Prop} {w : World} {r : R}
theorem str_of_cells {src dst e : TypeId} {A : Addr} {n cap : Nat} {z : List Int} {i : TypeInfo} (hs : P.underlying src = some (.slice e)) (he : P.underlying e = some (.int .u8)) (hd : P.underlying dst = some .string)
  (hc : ∀ j v, (z.map (Value.int .u8))[j]? = some v → w.cell? ⟨A.block, A.off + j, none⟩ = some v) (hA : A.spot = none) (hn : n = z.length) : (convert src dst (.slice (some A) n cap)).run P w = .ok (.string (bytesOf z)) w := by
 subst hn
 obtain ⟨β, off, sp⟩ := A
 simp only at hA hc; subst hA
 have hl := run_loadCells_list (P := P) w ⟨β, off, none⟩ (z.map (Value.int .u8)) (fun j v hv => by rw [addr_add]; exact hc j v hv)
 rw [List.length_map] at hl
 have hb := run_bytesToString w ⟨β, off, none⟩ z.length cap z hl
 have hfold : z.foldl (fun r n => r.push (UInt8.ofNat n.toNat)) ByteArray.empty = bytesOf z := by
  rw [foldl_push_bytes]; unfold bytesOf; congr 1; show #[] ++ _ = _; simp
 rw [hfold] at hb
 simp [convert, run_underlying hs, run_underlying hd, run_underlying he, hb]
theorem bytesIn_spec : ∀ {l : List AV} {z : List Int}, bytesIn l = some z → z.length = l.length ∧ ∀ (j : Nat) (v : AV), l[j]? = some v → ∃ n, v = AV.int .u8 n ∧ z[j]? = some n
 | [], z, h => by obtain rfl := Option.some.inj h; exact ⟨rfl, fun j v hv => by simp at hv⟩
 | .int k n :: l, z, h => by
  cases k <;> simp only [bytesIn] at h <;> try (cases h; done)
  split at h
  ·rename_i l' hl'
   obtain rfl := Option.some.inj h
   obtain ⟨g1, g2⟩ := bytesIn_spec hl'
   refine ⟨by simp [g1], fun j v hv => ?_⟩
   cases j with
   | zero => simp at hv; exact ⟨n, hv.symm, rfl⟩
   | succ j => exact g2 j v (by simpa using hv)
  ·cases h
theorem conv_wp {C : Ctx} (hT : TabOk P C.T) {s : St} {K : AV → St → Option R} {o : Oper} {a : Act} {Q : Exit → Act → World → Prop} {src dst e : TypeId} {x : Operand} {b sz off n : Nat} {z : List Int} (ho : o.op = .convert src dst x) (hH : HR P w0 σ0 ρ σ (fun b => s.boxes[b]?) s.alive w)
  (hd : (C.ti dst).d = .str) (hs : (C.ti src).d = .sl e) (he : (C.ti e).d = .int .u8) (hx : ev s x = .ms b sz off n) (h1 : sz = 1) (gx : RA ρ w0.heap.size σ w (ev s x) (a.eval x)) (hzl : z.length = n)
  (hz : ∀ β, ρ.φ b = some β → ∀ j v, (z.map (Value.int .u8))[j]? = some v → w.cell? ⟨β, off + j, none⟩ = some v) (h : K (.str (bytesOf z)) s = some r) : o.wp P a w (XOut P w0 σ0 ρ σ w K r s o a) Q := by
 obtain ⟨i1, z1, ks⟩ := known (P := P) hT (t := src) (by rw [hs]; exact fun e => by cases e)
 obtain ⟨i2, z2, kd⟩ := known (P := P) hT (t := dst) (by rw [hd]; exact fun e => by cases e)
 obtain ⟨i3, z3, ke⟩ := known (P := P) hT (t := e) (by rw [he]; exact fun e => by cases e)
 have hus := und_sl (ks.desc.trans hs)
 have hud := und_str (kd.desc.trans hd)
 have hue := und_int (ke.desc.trans he)
 rw [hx] at gx
 obtain ⟨A, cap, ex, hnc, hA⟩ := gx
 have key : (convert src dst (a.eval x)).run P w = .ok (.string (bytesOf z)) w := by
  rw [ex]
  by_cases hn : n = 0
  ·have hz0 : z = [] := List.eq_nil_of_length_eq_zero (by rw [hzl, hn])
   subst hz0
   rcases hA with ⟨rfl, _⟩ | ⟨β, o', rfl, _⟩
   ·simp [convert, run_underlying hus, run_underlying hud, run_underlying hue, Conv.bytesToString]; rfl
   ·exact str_of_cells (i := i1) hus hue hud (fun j v hv => by simp at hv) rfl hzl.symm
  ·obtain ⟨β, o', eA, hA2⟩ := hA.resolve_left (fun hh => hn hh.2)
   subst eA
   obtain ⟨q1, q2⟩ := hA2.resolve_left hn
   rw [h1, Nat.mul_one] at q2
   subst q2
   exact str_of_cells (i := i1) hus hue hud (hz β q1) rfl hzl.symm
 exact xout_run (nx := .value (.string (bytesOf z))) (w' := w) (by simp [execOp, ho, key]) (.inl rfl) h rfl rfl Mono.refl hH
theorem RE.flat {σ' : Nat → Nat → Prop} {w' : World} : ∀ {t : Ty} {x : El t} {vs : List Value}, t.flat = true → RE σ w t x vs → RE σ' w' t x vs
 | .int _, _, _, _, g => g
 | .bool, _, _, _, g => g
 | .str, _, _, _, g => g
 | .unit, _, _, _, g => g
 | .pair _ _, _, _, h, ⟨u, v, e, g, k⟩ => by
  simp only [Ty.flat, Bool.and_eq_true] at h
  exact ⟨u, v, e, RE.flat h.1 g, RE.flat h.2 k⟩
 | .sl _, _, _, h, _ => by cases h
theorem R1.flat {σ' : Nat → Nat → Prop} {w' : World} {s : Shp} {x : El s.ty} {v : Value} (h : s.flat = true) (g : R1 σ w s x v) : R1 σ' w' s x v := by
 cases s with
 | v t => exact RE.flat h g
 | a t => obtain ⟨cs, e, g⟩ := g; exact ⟨cs, e, RE.flat h g⟩
 | p t => cases h
 | fn f l => cases h
theorem RS.flat {σ' : Nat → Nat → Prop} {w' : World} : ∀ {sg : List Shp} {x : El (sgTy sg)} {vs : List Value}, sg.all Shp.flat = true → RS σ w sg x vs → RS σ' w' sg x vs
 | [], _, _, _, g => g
 | [s], x, _, h, ⟨v, e, g⟩ => by
  simp only [List.all_cons, List.all_nil, Bool.and_true] at h
  exact ⟨v, e, R1.flat h g⟩
 | s :: r :: l, x, _, h, ⟨v, q, e, g, k⟩ => by
  rw [List.all_cons, Bool.and_eq_true] at h
  exact ⟨v, q, e, R1.flat h.1 g, RS.flat h.2 k⟩
theorem RR.flat {σ' : Nat → Nat → Prop} {w' : World} {rs : Rs} {x : El rs.ty} {v : Value} (h : rs.flat = true) (g : RR σ w rs x v) : RR σ' w' rs x v := by
 cases rs with
 | one s => exact R1.flat h g
 | tup l => obtain ⟨vs, e, g⟩ := g; exact ⟨vs, e, RS.flat h g⟩
def Still (ρ : Env) (σ : Nat → Nat → Prop) : Nat → Nat → Prop := fun b o => σ b o ∨ ∃ x, ρ.φ x = some b
theorem HR.still {bx al} (h : HR P w0 σ0 ρ σ bx al w) : Mono ρ σ w ρ (Still ρ σ) w ∧ Fits (Still ρ σ) w :=
 ⟨⟨⟨fun _ _ x => .inl x, fun _ _ _ _ x => x⟩, fun _ _ x => x, Nat.le_refl _, fun i ow _ x => ⟨x, fun β e => ⟨fun o y => y.elim id fun ⟨z, hz⟩ => absurd hz ((h.own i β (by rw [x, e])).2.2 z), fun _ _ _ hc => hc⟩⟩, rfl⟩,
  fun b o x => x.elim (h.fits b o) fun ⟨z, hz⟩ => (h.phi z b hz).2.2.1⟩
theorem frzP_sound {s : St} (h : HR P w0 σ0 ρ σ (fun b => s.boxes[b]?) s.alive w) {t : Ty} {a : AV} {v : Value} (g : RA ρ w0.heap.size σ w a v) : RA ρ w0.heap.size (Still ρ σ) w (frzP s t a) v := by
 unfold frzP
 split
 ·rename_i b i
  split
  ·rename_i cs hcs
   split
   ·rename_i hp
    split
    ·rename_i x hx
     obtain ⟨β, h1, h2⟩ := h.box b cs hcs
     obtain ⟨us, e, h3, h4⟩ := h2.plain hp
     obtain ⟨β', h1', ev⟩ := g
     rw [h1] at h1'
     obtain rfl := Option.some.inj h1'
     have h5 := (h4.drop i).take t.sz
     obtain ⟨u, q, e1, e2, e3⟩ := dec_sound hx h5
     obtain rfl : q = [] := e3
     rw [List.append_nil] at e1
     refine ⟨β, i, u, by rw [ev]; rfl, RE.mono h.still.1.toKeeps e2, fun j v' hv => ⟨.inr ⟨b, h1⟩, ?_⟩⟩
     rw [cell_of_row w β (i + j) us e (0, 0) h3, ← Array.getElem?_toList]
     rw [← e1, List.getElem?_take] at hv
     split at hv
     ·rw [List.getElem?_drop] at hv; exact hv
     ·cases hv
    ·trivial
   ·trivial
  ·trivial
 ·exact RA.mono h.still.1 _ g
theorem frzPs_sound {s : St} (h : HR P w0 σ0 ρ σ (fun b => s.boxes[b]?) s.alive w) : ∀ (l : List Ty) {as : List AV} {vs : List Value}, RAs ρ w0.heap.size σ w as vs → RAs ρ w0.heap.size (Still ρ σ) w (frzPs s l as) vs
 | [], as, _, g => by
  have : frzPs s [] as = as := by cases as <;> rfl
  rw [this]; exact RAs.mono h.still.1 _ g
 | t :: l, [], _, g => g
 | t :: l, a :: as, _, ⟨v, q, e, g, k⟩ => ⟨v, q, e, frzP_sound h g, frzPs_sound h l k⟩
theorem frz_sound {s : St} (h : HR P w0 σ0 ρ σ (fun b => s.boxes[b]?) s.alive w) {sh : Shp} {a : AV} {v : Value} (g : RA ρ w0.heap.size σ w a v) : RA ρ w0.heap.size (Still ρ σ) w (frz s sh a) v := by
 unfold frz
 split
 ·exact frzP_sound h g
 ·obtain ⟨vs, e, g⟩ := g
  exact ⟨vs, e, frzPs_sound h _ g⟩
 ·exact RA.mono h.still.1 _ g
theorem frzs_sound {s : St} (h : HR P w0 σ0 ρ σ (fun b => s.boxes[b]?) s.alive w) : ∀ (l : List Shp) {as : List AV} {vs : List Value}, RAs ρ w0.heap.size σ w as vs → RAs ρ w0.heap.size (Still ρ σ) w (frzs s l as) vs
 | [], as, _, g => by
  have : frzs s [] as = as := by cases as <;> rfl
  rw [this]; exact RAs.mono h.still.1 _ g
 | t :: l, [], _, g => g
 | t :: l, a :: as, _, ⟨v, q, e, g, k⟩ => ⟨v, q, e, frz_sound h g, frzs_sound h l k⟩
structure ConSOk (P : Program) (c : ConS) : Prop where
 there : ∃ fn, P.funcs[c.id]? = some fn ∧ fn.body.isSome = true ∧ (fn.name == "runtime.NumGoroutine") = false
 calls : ∀ {w0 : World} {σ0 : Nat → Nat → Prop} {ρ : Env} {σ : Nat → Nat → Prop} {w : World} {s : St} {as : List AV} {vs : List Value} {t : Ty} {y : El t} {g : El t → AV × St}, c.run as s = some ⟨t, some y, g⟩ → RAs ρ w0.heap.size σ w as vs →
  HR P w0 σ0 ρ σ (fun b => s.boxes[b]?) s.alive w → Calls P c.id vs.toArray w fun e w' => ∃ v ρ' σ', e = .returned v ∧ RA ρ' w0.heap.size σ' w' (g y).1 v ∧ Mono ρ σ w ρ' σ' w' ∧ HR P w0 σ0 ρ' σ' (fun b => (g y).2.boxes[b]?) (g y).2.alive w'
structure CtxOk (P : Program) (C : Ctx) : Prop where
 g : ∀ c ∈ C.G, ConOk P c
 s : ∀ c ∈ C.S, ConSOk P c
theorem callS_wp {C : Ctx} (hG : CtxOk P C) {s : St} {K : AV → St → Option R} {o : Oper} {c : Call} {f : Operand} {g : FuncId} {caps : List AV} {a : Act} {Q : Exit → Act → World → Prop} (ho : o.op = .call c) (hc : c.callee = .value f) (hH : HR P w0 σ0 ρ σ (fun b => s.boxes[b]?) s.alive w)
  (hf : ev s f = .fn g caps) (h : callS C s g (c.args.toList.map (ev s) ++ caps) K = some r) (hv : ∀ x ∈ o.op.operands.toList, RA ρ w0.heap.size σ w (ev s x) (a.eval x)) : o.wp P a w (XOut P w0 σ0 ρ σ w K r s o a) Q := by
 have gf := hv f (by rw [ho]; simp [Op.operands, Call.operands, hc])
 rw [hf] at gf
 obtain ⟨vs, ef, gc⟩ := gf
 have ga : RAs ρ w0.heap.size σ w (c.args.toList.map (ev s)) (c.args.toList.map a.eval) := maps_ra fun x hx => hv x (by rw [ho]; simp [Op.operands, Call.operands, hx])
 have gall := ga.append gc
 have hargs : (c.args.toList.map a.eval ++ vs.toList).toArray = c.args.map a.eval ++ vs := by apply Array.ext'; simp
 have run : (callFunc g (c.args.toList.map a.eval ++ vs.toList).toArray).run P w = .ok (.enter g (c.args.toList.map a.eval ++ vs.toList).toArray) w → (execOp a.eval o).run P w = .ok (.enter g (c.args.toList.map a.eval ++ vs.toList).toArray) w := fun h1 => by
  rw [hargs] at h1 ⊢
  simp [execOp, ho, resolve, hc, ef, Deferred.ofValue, invoke, h1]
 unfold callS at h
 split at h
 ·rename_i d hd
  have hmem := List.mem_of_find?_eq_some hd
  have hid : d.id = g := by simpa using List.find?_some hd
  split at h
  ·rename_i t x gg hrun
   obtain ⟨y, hy, h⟩ := Option.bind_eq_some_iff.1 h
   subst hy
   have k := hG.s d hmem
   have h2 := k.calls hrun gall hH
   have h1 := run_callFunc k.there (c.args.toList.map a.eval ++ vs.toList).toArray w
   rw [hid] at h1 h2
   unfold Oper.wp
   rw [run h1, Oper.upon_enter]
   exact h2.mono fun e w' ⟨v, ρ', σ', e1, e2, e3, e4⟩ => by subst e1; exact ⟨_, _, v, ρ', σ', h, rfl, rfl, e2, e3, e4⟩
  ·cases h
 ·split at h
  ·rename_i d hd
   have hmem := List.mem_of_find?_eq_some hd
   have hid : d.id = g := by simpa using List.find?_some hd
   split at h
   ·split at h
    ·rename_i hfl
     split at h
     ·rename_i x hx
      obtain ⟨y, hy, h⟩ := Option.bind_eq_some_iff.1 h
      have k := hG.g d hmem
      have gfr := frzs_sound hH d.sg gall
      have h2 := k.calls x y hy (Still ρ σ) w _ hH.still.2 (decs_sound hx gfr)
      have h1 := run_callFunc k.there (c.args.toList.map a.eval ++ vs.toList).toArray w
      rw [hid] at h1 h2
      unfold Oper.wp
      rw [run h1, Oper.upon_enter]
      refine h2.mono fun e w' ⟨v, σ', e1, e2, e3⟩ => ?_
      subst e1
      have hgr : Grow σ w (fun b o => σ' b o ∧ ¬ ∃ x, ρ.φ x = some b) w' := ⟨e2.below, fun b o hs => ⟨e2.sig b o (.inl hs), fun ⟨x, hx⟩ => (hH.phi x b hx).2.2.2 o hs⟩, fun b o hs => (e2.new b o hs.1).imp (fun hh => hh.resolve_right hs.2) id, fun b o hs => e2.lt b o hs.1⟩
      exact ⟨_, s, v, ρ, _, h, rfl, rfl, RR.ra (RR.flat hfl e3), hH.mono hgr, hH.grow hgr⟩
     ·cases h
    ·cases h
   ·exact xout_of_out hH (call_wp hG.g ho hc hf h hv hH.fits)
  ·cases h
theorem xm_sound {C : Ctx} (hT : TabOk P C.T) (hG : CtxOk P C) {s : St} {K : AV → St → Option R} {o : Oper} {a : Act} {Q : Exit → Act → World → Prop}
  (hv : ∀ x ∈ o.op.operands.toList, RA ρ w0.heap.size σ w (ev s x) (a.eval x)) (hH : HR P w0 σ0 ρ σ (fun b => s.boxes[b]?) s.alive w) (h : xm C s o.op K = some r) : o.wp P a w (XOut P w0 σ0 ρ σ w K r s o a) Q := by
 have other : xa C (ev s) o.op (fun v => K v s) = some r → o.wp P a w (XOut P w0 σ0 ρ σ w K r s o a) Q := fun h' => xout_of_out hH (xa_sound hT hG.g hH.fits hv h')
 unfold xm at h
 split at h
 ·rename_i src dst x ho
  have gx := hv x (by rw [ho]; simp [Op.operands])
  split at h
  ·rename_i e b sz off n hd hs hx
   split at h
   ·rename_i l he hr
    split at h
    ·rename_i h1
     obtain ⟨z, hz, hk⟩ := Option.bind_eq_some_iff.1 h
     unfold lpart at hz
     split at hz
     ·rename_i hle
      obtain rfl := Option.some.inj hz
      refine conv_wp hT ho hH hd hs he hx h1 gx (by rw [List.length_take, List.length_drop]; omega) (fun β hβ j v hj => ?_) hk
      obtain ⟨β', q1, q2⟩ := hH.box b _ (rowOf_some hr)
      rw [hβ] at q1
      obtain rfl := Option.some.inj q1
      obtain ⟨us, e', q3, q4⟩ := q2.row
      have q5 := RLs.ints q4
      rw [cell_of_row w β (off + j) us e' (0, 0) q3, ← Array.getElem?_toList, q5, List.getElem?_map]
      rw [List.getElem?_map, List.getElem?_take] at hj
      split at hj
      ·rw [List.getElem?_drop] at hj; exact hj
      ·simp at hj
     ·cases hz
    ·cases h
   ·rename_i he hr
    split at h
    ·rename_i h1
     split at h
     ·rename_i cs hcs
      split at h
      ·rename_i hc
       split at h
       ·rename_i z hz
        obtain ⟨z1, z2⟩ := bytesIn_spec hz
        have hln : ((cs.drop off).take n).length = n := by rw [List.length_take, List.length_drop]; omega
        refine conv_wp hT ho hH hd hs he hx h1 gx (by rw [z1, hln]) (fun β hβ j v hj => ?_) h
        obtain ⟨β', q1, q2⟩ := hH.box b _ hcs
        rw [hβ] at q1
        obtain rfl := Option.some.inj q1
        obtain ⟨us, e', q3, q4⟩ := q2.plain hc.1
        rw [cell_of_row w β (off + j) us e' (0, 0) q3, ← Array.getElem?_toList]
        rw [List.getElem?_map] at hj
        have hjl : j < z.length := by
         rcases Nat.lt_or_ge j z.length with hh | hh
         ·exact hh
         ·rw [List.getElem?_eq_none hh] at hj; cases hj
        have hjn : j < n := by rw [← hln, ← z1]; exact hjl
        obtain ⟨m, e1, e2⟩ := z2 j _ (List.getElem?_eq_getElem (by rw [← z1]; exact hjl))
        rw [e2] at hj
        simp only [Option.map_some, Option.some.injEq] at hj
        have hcj : cs[off + j]? = some (.int .u8 m) := by
         rw [← e1, List.getElem_take, List.getElem_drop, List.getElem?_eq_getElem]
        obtain ⟨u, hu, g⟩ := q4.get hcj
        rw [hu, ← hj]; exact congrArg some g
       ·cases h
      ·cases h
     ·cases h
    ·cases h
   ·cases h
  ·rw [← ho] at h; exact other h
 ·rename_i f args tys ho
  split at h
  ·rename_i g caps hf
   exact callS_wp hG ho rfl hH hf h hv
  ·cases h
 ·exact other h
variable {P : Program} {R : Type} {w0 : World} {σ0 : Nat → Nat → Prop} {ρ : Env} {σ : Nat → Nat → Prop} {w : World} {r : R}
theorem sameTmp_eq {n c : Operand} (h : sameTmp n c = true) : n = c := by
 unfold sameTmp at h
 split at h
 ·rw [beq_iff_eq.1 h]
 ·cases h
theorem emp_run {t ty e : TypeId} {i : TypeInfo} {z : Value} (ht : P.underlying t = some (.slice e)) (hi : P.info? e = some i) (hz : i.zero = some z) {u : Ty} (hsize : i.size = u.sz) {A : Option Addr} (hA : A = none ∨ ∃ β o, A = some ⟨β, o, none⟩) {m : List (El u)} {src : Value}
  (hm : RE σ w (.sl u) m [src]) (hσ : Fits σ w) (hbytes : m.length * i.bytes ≤ 140737488355328) (h63 : m.length ≤ maxLen) :
  ∃ v' w' σ', (Builtin.append_ #[t, t] ty #[.slice A 0 0, src]).run P w = .ok v' w' ∧ Grow σ w σ' w' ∧ RE σ' w' (.sl u) m [v'] := by
 have hsmall : m.length ≤ 9223372036854775807 := by simp only [maxLen] at h63; omega
 obtain ⟨B, c, e1, hmc, hB⟩ := row_at hm
 subst e1
 by_cases hm0 : m.length = 0
 ·refine ⟨.slice A 0 0, w, σ, ?_, Grow.refl hσ, A, 0, by rw [hm0], by omega, ?_⟩
  ·rw [hm0]
   cases B <;> rcases hA with rfl | ⟨β, o, rfl⟩ <;> simp [Builtin.append_, run_underlying ht, Go.sizeOf, typeInfo, hi, Builtin.lenOf, Builtin.firstCells, loadCells, loadCellsFrom, storeCells]
  ·exact .inl (List.eq_nil_of_length_eq_zero hm0)
 ·rcases hB with hm' | ⟨γ, go, ms, rfl, g1, g2⟩
  ·exact absurd (by rw [hm']; rfl) hm0
  have hml : ms.length = m.length * i.size := by rw [g1.len, hsize]
  have hnews : ∀ j v, ms[j]? = some v → w.cell? ((⟨γ, go, none⟩ : Addr).add j) = some v := fun j v hv => by rw [addr_add]; exact (g2 j v hv).2
  have fin : ∀ w1 : World, w1 = w.drew → ∀ (cap : Nat) (cs : Array Value), m.length ≤ cap → (Builtin.append_ #[t, t] ty #[.slice A 0 0, .slice (some ⟨γ, go, none⟩) m.length c]).run P w = .ok (.slice (some ⟨w.heap.size, 0, none⟩) m.length cap) (w.drew.alloc (.cells cs e)) → cs.toList.take ms.length = ms →
    ∃ v' w' σ', (Builtin.append_ #[t, t] ty #[.slice A 0 0, .slice (some ⟨γ, go, none⟩) m.length c]).run P w = .ok v' w' ∧ Grow σ w σ' w' ∧ RE σ' w' (.sl u) m [v'] := fun w1 _ cap cs hcap hr htk => by
   have hle : ms.length ≤ cs.size := by
    have := congrArg List.length htk
    rw [List.length_take] at this
    have h2 : cs.toList.length = cs.size := by simp
    omega
   have hg0 : Grow σ w σ w.drew := ⟨⟨rfl, rfl, rfl, Nat.le_refl _, fun _ _ => rfl⟩, fun _ _ h => h, fun _ _ h => .inl h, hσ⟩
   have hσ1 : Fits σ w.drew := hσ
   obtain ⟨k1, k2⟩ := grow_alloc hσ1 cs e ms.length hle
   have hg : Grow σ w (fun b o => σ b o ∨ (b = w.drew.heap.size ∧ o < ms.length)) (w.drew.alloc (.cells cs e)) := ⟨hg0.below.trans k1.below, k1.sig, fun b o h => h.imp id fun h => by rw [h.1]; exact Nat.le_refl _, k1.lt⟩
   refine ⟨_, _, _, hr, hg, _, cap, rfl, hcap, .inr ⟨w.heap.size, 0, ms, rfl, RLs.mono (fun _ _ => RE.mono (hg.keeps hσ)) g1, ?_⟩⟩
   rw [htk] at k2
   exact k2
  rcases hA with rfl | ⟨β, o, rfl⟩
  ·have hr := run_append_nil (P := P) w t ty e i z ht hi hz ⟨γ, go, none⟩ m.length c ms hml hnews (by omega) (by omega) (by omega)
   exact fin _ rfl _ _ (grownCap_ge _ _ _ _) hr (by simp)
  ·have hr := run_append_grow (P := P) w t ty e i z ht hi hz ⟨β, o, none⟩ 0 0 [] (by simp) (fun j v hv => by simp at hv) ⟨γ, go, none⟩ m.length c ms hml hnews (by omega) (by omega) (growslice_fits (by omega) (by simpa using hbytes))
   simp only [Nat.zero_add] at hr
   exact fin _ rfl _ _ (grownCap_ge _ _ _ _) hr (by simp)
theorem xs_sound {C : Ctx} (hT : TabOk P C.T) (hG : CtxOk P C) {dr : Bool} {s : St} {K : AV → St → Option R} {o : Oper} {a : Act} {Q : Exit → Act → World → Prop}
  (hv : ∀ x ∈ o.op.operands.toList, RA ρ w0.heap.size σ w (ev s x) (a.eval x)) (hH : HR P w0 σ0 ρ σ (fun b => s.boxes[b]?) s.alive w) (h : xs C dr s o.op K = some r) : o.wp P a w (XOut P w0 σ0 ρ σ w K r s o a) Q := by
 have other : xa C (ev s) o.op (fun v => K v s) = some r → o.wp P a w (XOut P w0 σ0 ρ σ w K r s o a) Q := fun h' => xout_of_out hH (xa_sound hT hG.g hH.fits hv h')
 unfold xs at h
 split at h
 ·rename_i e ho
  split at h
  ·rename_i hk; exact alloc_wp hT ho hH hk h
  ·cases h
 ·rename_i e x ho
  split at h
  ·rename_i hx; exact box_wp ho hH hx (hv x (by rw [ho]; simp [Op.operands])) h
  ·cases h
 ·rename_i t x ho
  exact xout_of_out hH (out_yields (by simp only [execOp, ho]) (load_yields hT hH (fun b cs _ _ _ hb => hb) h (hv x (by rw [ho]; simp [Op.operands]))) hH.fits)
 ·rename_i t y x ho
  split at h
  ·rename_i b i hy
   split at h
   ·rename_i cs hb
    split at h
    ·rename_i hc
     exact store_wp hT ho hH hy hb hc.1 hc.2.1 hc.2.2.1 hc.2.2.2.1 hc.2.2.2.2 (hv y (by rw [ho]; simp [Op.operands])) (hv x (by rw [ho]; simp [Op.operands])) h
    ·cases h
   ·cases h
  ·rename_i b sz j hy
   split at h
   ·rename_i u l hr
    split at h
    ·rename_i hc
     split at h
     ·rename_i z hz
      obtain ⟨l', hl', hk⟩ := Option.bind_eq_some_iff.1 h
      exact rowStore_wp hT ho hH hy (rowOf_some hr) hc.1 hc.2.1 hc.2.2.1 hc.2.2.2 hz hl' (hv y (by rw [ho]; simp [Op.operands])) (hv x (by rw [ho]; simp [Op.operands])) hk
     ·cases h
    ·cases h
   ·cases h
  ·cases h
 ·rename_i t n parts ho
  cases dr with
  | true => exact xout_of_out hH (builtSlice_wp (K := fun v => K v s) hT ho (by simpa using h) (fun q hq => hv q.2 (by rw [ho]; exact List.mem_map.2 ⟨q, hq, rfl⟩)) hH.fits)
  | false =>
   obtain ⟨u, l, vs, e, hk, hr, h1, h2, h3, h4⟩ := built_sound (w := w) (base := w0.heap.size) (ρ := ρ) (σ := σ) hT h (fun q hq => hv q.2 (by rw [ho]; exact List.mem_map.2 ⟨q, hq, rfl⟩))
   simp only [Bool.false_eq_true, if_false] at hk
   have hn : n ≤ maxLen := by
    have : maxLen = 9223372036854775807 := rfl
    omega
   have hown := World.ownsRow_lit (base := w0.heap.size) (e := e) (size := u.sz) w vs n hH.size hn h3
   obtain ⟨ρ', σ', m1, m2, m3⟩ := hH.newOwn ((Below.refl _ w).alloc (Nat.le_refl _) _) hown h2 h1 (by simp)
   refine xout_run (nx := .value (.slice (some ⟨w.heap.size, 0, none⟩) n n)) (w' := w.alloc (.cells vs e)) ?_ (.inl rfl) hk rfl m3 m1 m2
   have hp : (parts.toList.map fun q => (q.1, a.eval q.2)).toArray = parts.map fun (i, x) => (i, a.eval x) := by apply Array.ext'; simp
   rw [hp] at hr
   simp [execOp, ho, hr]
 ·rename_i t n c ho
  split at h
  ·rename_i e hd
   split at h
   ·rename_i u hu
    split at h
    ·rename_i hc
     split at h
     ·rename_i k m k' c' hn hcp
      split at h
      ·rename_i hsame
       have hnc := sameTmp_eq hsame
       subst hnc
       rw [hn] at hcp
       simp only [AV.int.injEq] at hcp
       obtain ⟨rfl, rfl⟩ := hcp
       split at h
       ·rename_i hz0
        split at h
        ·rename_i z hz
         split at h
         ·rename_i hb
          have gn := hv n (by rw [ho]; simp [Op.operands])
          rw [hn] at gn
          have en : a.eval n = .int k m := gn
          exact make_wp hT ho hH hd hc.1 hc.2.1 en en hz hz0.2 hb.1 hb.2 h
         ·cases h
        ·cases h
       ·cases h
      split at h
      ·rename_i hz
       obtain ⟨c1, c2, c3⟩ := hc
       obtain ⟨z1, z2, z3, z4⟩ := hz
       obtain ⟨i1, zt, kt⟩ := known (P := P) hT (t := t) (by rw [hd]; exact fun e => by cases e)
       have hut := und_sl (kt.desc.trans hd)
       obtain ⟨i2, ze, ke⟩ := addr_pos (P := P) hT c1
       have gn := hv n (by rw [ho]; simp [Op.operands])
       have gc := hv c (by rw [ho]; simp [Op.operands])
       rw [hn] at gn; rw [hcp] at gc
       have en : a.eval n = .int k m := gn
       have ec : a.eval c = .int k' c' := gc
       obtain ⟨cn, hcn⟩ : ∃ cn : Nat, c' = (cn : Int) := ⟨c'.toNat, by omega⟩
       have hb1 : i2.bytes * cn ≤ 281474976710656 := by
        rw [ke.bytes]
        have : ((C.ti e).bytes : Int) * (cn : Int) ≤ 281474976710656 := by rw [← hcn]; exact z3
        have h2 : (((C.ti e).bytes * cn : Nat) : Int) ≤ 281474976710656 := by rw [Int.natCast_mul]; exact this
        omega
       have hb2 : cn ≤ maxLen := by have : maxLen = 9223372036854775807 := rfl; omega
       obtain ⟨w', r1, r2, r3⟩ := run_make_own (P := P) w w0.heap.size t e i2 ze u.sz hut ke.info ke.zero (by rw [ke.size, c2]) k k' cn hb1 hb2 hH.size
       have hbel : Below w.heap.size w w' := ⟨r3.os, r3.tape, r3.output, r3.size, fun j hj => r3.block j hj (by simp)⟩
       have hlt : w.heap.size < w'.heap.size := (r2.lt _ rfl).2
       obtain ⟨ρ', σ', m1, m2, m3⟩ := hH.newOwn (t := u) (l := []) hbel r2 rfl rfl hlt
       refine xout_run (nx := .value (.slice (some ⟨w.heap.size, 0, none⟩) 0 cn)) (w' := w') ?_ (.inl rfl) h rfl m3 m1 m2
       simp [execOp, ho, en, ec, hcn, z1, r1]
      ·cases h
     ·cases h
    ·cases h
   ·cases h
  ·cases h
 ·rename_i args argTypes ho
  split at h
  ·rename_i base x t t' hargs htys
   split at h
   ·rename_i e hd
    split at h
    ·rename_i u hu
     split at h
     ·rename_i hc
      obtain ⟨c0, c1, c2, c3, c4, c5⟩ := hc
      subst c0
      obtain ⟨i1, zt, kt⟩ := known (P := P) hT (t := t) (by rw [hd]; exact fun e => by cases e)
      have hut := und_sl (kt.desc.trans hd)
      obtain ⟨i2, ze, ke⟩ := addr_pos (P := P) hT c1
      have hargs' : args = #[base, x] := by apply Array.ext'; simpa using hargs
      have htys' : argTypes = #[t, t] := by apply Array.ext'; simpa using htys
      have gb := hv base (by rw [ho]; simp [Op.operands, Call.operands, hargs'])
      have gx := hv x (by rw [ho]; simp [Op.operands, Call.operands, hargs'])
      have hzs : ze.cells.size = u.sz := by rw [c3, ← c2, ke.cells]; simp
      have hsrc : ∀ m : List (El u), listOf u (ev s x) = some m → ∃ A c news, a.eval x = .slice A m.length c ∧ RLs (RE σ w u) m news ∧ ((A = none ∧ m.length = 0) ∨ ∃ ad, A = some ad ∧ ∀ j v, news[j]? = some v → w.cell? (ad.add j) = some v) := by
       intro m hm
       obtain ⟨A, c, e1, _, e3⟩ := row_at (listOf_sound hm gx)
       rcases e3 with rfl | ⟨β, off, cs, rfl, e4, e5⟩
       ·cases A with
        | none => exact ⟨none, c, [], e1, rfl, .inl ⟨rfl, rfl⟩⟩
        | some A => exact ⟨some A, c, [], e1, rfl, .inr ⟨A, rfl, fun j v hj => by simp at hj⟩⟩
       ·exact ⟨_, c, cs, e1, e4, .inr ⟨_, rfl, fun j v hj => by rw [addr_add]; exact (e5 j v hj).2⟩⟩
      have fin : ∀ (old : Option Nat) (v : Value) (l m z : List (El u)) (ty : TypeId) (cs : List Value), a.eval base = v → listOf u (ev s x) = some m → lcat (C.ti e).bytes l m = some z →
        ((old = none ∧ v.ownBlock = none) ∨ ∃ i, old = some i ∧ ρ.own i = some v.ownBlock) → (∀ β, v.ownBlock = some β → ∀ o, σ β o → o < l.length * u.sz) → w.ownsRow w0.heap.size ty u.sz v l.length cs → RLs (RE σ w u) l cs →
        K (.sl (some (letFall s.alive old).length) u z) { s with alive := letFall s.alive old ++ [true] } = some r → o.wp P a w (XOut P w0 σ0 ρ σ w K r s o a) Q := by
       intro old v l m z ty cs ev1 hm hz hold hlow hown hrl hk
       unfold lcat at hz
       split at hz
       ·rename_i hle
        obtain rfl := Option.some.inj hz
        obtain ⟨A, c, news, e1, e2, e3⟩ := hsrc m hm
        have hb1 : (l.length + m.length) * i2.bytes ≤ 140737488355328 := by rw [ke.bytes]; omega
        have h63 : l.length + m.length ≤ maxLen := by
         have h1 : maxLen = 9223372036854775807 := rfl
         have h2 : (l.length + m.length) * 1 ≤ (l.length + m.length) * (C.ti e).bytes := Nat.mul_le_mul_left _ c5
         omega
        obtain ⟨v', w', e9, r1, r2, r3, r4⟩ := app_run (ty := o.type) hut ke.info ke.zero (by rw [ke.size, c3]) hzs (by rw [c3]; exact c4) hown e1 e3 e2.len (RLs.one e2) hb1 h63 hH.size
        obtain ⟨ρ', σ', m1, m2, m3⟩ := hH.app hold hlow hown hrl e2 r2 r3 r4
        refine xout_run (nx := .value v') (w' := w') ?_ (.inl rfl) hk rfl m3 m1 m2
        subst ev1
        simp [execOp, ho, resolve, hargs', htys', invoke, builtin, r1]
       ·cases hz
      split at h
      ·rename_i m t0 hm hb
       obtain ⟨z, hz, hk⟩ := Option.bind_eq_some_iff.1 h
       rw [hb] at gb
       obtain ⟨A, eb, hA⟩ := gb
       unfold lcat at hz
       split at hz
       ·rename_i hle
        obtain rfl := Option.some.inj hz
        rw [List.length_nil, Nat.zero_add] at hle
        have h63 : m.length ≤ maxLen := by
         have h1 : maxLen = 9223372036854775807 := rfl
         have h2 : m.length * 1 ≤ m.length * (C.ti e).bytes := Nat.mul_le_mul_left _ c5
         omega
        obtain ⟨v', w', σ', r1, r2, r3⟩ := emp_run (P := P) (ty := o.type) hut ke.info ke.zero (by rw [ke.size, c3]) hA (listOf_sound hm gx) hH.fits (by rw [ke.bytes]; omega) h63
        refine xout_run (nx := .value v') (w' := w') ?_ (.inl rfl) hk rfl ⟨r3, fun i e => by cases e⟩ (hH.mono r2) (hH.grow r2)
        rw [← eb] at r1
        simp [execOp, ho, resolve, hargs', htys', invoke, builtin, r1]
       ·cases hz
      ·rename_i m hm hb
       obtain ⟨z, hz, hk⟩ := Option.bind_eq_some_iff.1 h
       rw [hb] at gb
       have eb : a.eval base = .slice none 0 0 := gb
       exact fin none _ [] m z e [] eb hm hz (.inl ⟨rfl, rfl⟩) (fun β e => by cases e) (World.ownsRow_nil w _ e u.sz) rfl hk
      ·rename_i m i u' l hm hb
       split at h
       ·obtain rfl : u' = u := by assumption
        have hal : s.alive[i]? = some true := by assumption
        obtain ⟨z, hz, hk⟩ := Option.bind_eq_some_iff.1 h
        rw [hb] at gb
        obtain ⟨g1, g2⟩ := gb
        obtain ⟨ow, how⟩ := hH.alive i hal
        obtain ⟨g3, ty, cs, g4, g5, g6⟩ := (g2 i rfl).2 ow how
        refine fin (some i) _ l m z ty cs rfl hm hz (.inr ⟨i, rfl, by rw [g3]; exact how⟩) (fun β eb o hs => (g6 β (by rw [← g3]; exact eb) o).1 hs) g4 g5 ?_
        simpa [letFall] using hk
       ·cases h
      ·cases h
     ·cases h
    ·cases h
   ·cases h
  ·cases h
 ·rename_i t ho
  split at h
  ·rename_i k e hd
   split at h
   ·rename_i u hu
    split at h
    ·rename_i hc
     have hmt := mapTy (P := P) hT hu hc.1 hc.2.1
     obtain ⟨h1, h2⟩ := hH.newObj (b0 := s.boxes.length) (cs := [.keys k e u []]) (by simp) (.map #[] 0) fun _ _ => .map k e u [] rfl (Keyed.made hmt w)
     refine xout_run (nx := .value (.map (some w.heap.size))) (w' := w.alloc (.map #[] 0)) ?_ (.inl rfl) h rfl ⟨w.heap.size, ?_, rfl⟩ h1 (h2.congr (boxes_push _ _))
     ·simp [execOp, ho, Instr.makeMap, newObj]
      rfl
     ·show (if s.boxes.length = s.boxes.length then _ else _) = _
      rw [if_pos rfl]
    ·cases h
   ·cases h
  ·cases h
 ·rename_i t m x ho
  split at h
  ·rename_i k e b hd hm
   split at h
   ·rename_i k' e' u l hb
    split at h
    ·rename_i hc
     obtain ⟨rfl, rfl, _⟩ := hc
     obtain ⟨it, zt, kt⟩ := known (P := P) hT (t := t) (by rw [hd]; exact fun e => by cases e)
     have hut := und_map (kt.desc.trans hd)
     obtain ⟨β, h1, hbx⟩ := hH.box b _ hb
     have gm := hv m (by rw [ho]; simp [Op.operands])
     have gx := hv x (by rw [ho]; simp [Op.operands])
     rw [hm] at gm
     obtain ⟨β', h1', em⟩ := gm
     rw [h1] at h1'
     obtain rfl := Option.some.inj h1'
     obtain ⟨av, c, q1, q2, q3⟩ := keyIn_sound h gx hbx.keys hut
     refine xout_run (nx := .value (.bool c)) (w' := w) ?_ (.inl rfl) q1 rfl q3 Mono.refl hH
     simp only [execOp, ho, em, Sem.run_bind, q2, Result.andThen_ok, Sem.run_pure]
    ·cases h
   ·cases h
  ·cases h
 ·rename_i t m x ho
  split at h
  ·rename_i k e b hd hm
   split at h
   ·rename_i k' e' u l hb
    split at h
    ·rename_i hc
     obtain ⟨rfl, rfl, _⟩ := hc
     obtain ⟨it, zt, kt⟩ := known (P := P) hT (t := t) (by rw [hd]; exact fun e => by cases e)
     have hut := und_map (kt.desc.trans hd)
     obtain ⟨β, h1, hbx⟩ := hH.box b _ hb
     have gm := hv m (by rw [ho]; simp [Op.operands])
     have gx := hv x (by rw [ho]; simp [Op.operands])
     rw [hm] at gm
     obtain ⟨β', h1', em⟩ := gm
     rw [h1] at h1'
     obtain rfl := Option.some.inj h1'
     obtain ⟨l', w', q1, q2, q3, q4⟩ := keyAdd_sound h gx hbx.keys hut
     obtain ⟨m1, m2⟩ := hH.turn h1 q4 (cs := [.keys k e u l']) fun _ => .map k e u l' rfl q3
     have hb' : b < s.boxes.length := (List.getElem?_eq_some_iff.1 hb).1
     refine xout_run (nx := .skip) (v := undef) (w' := w') ?_ (.inr ⟨rfl, rfl⟩) q1 rfl ⟨#[], rfl, rfl⟩ m1 (m2.congr (boxes_set _ hb' _))
     have e2 : a.eval (.const (.bool true)) = .bool true := rfl
     simp only [execOp, ho, em, e2, Sem.run_bind, q2, Result.andThen_ok, Sem.run_pure]
    ·cases h
   ·cases h
  ·cases h
 ·rename_i t x ho
  split at h
  ·rename_i z hd hx
   split at h
   ·rename_i hdr
    obtain ⟨it, zt, kt⟩ := known (P := P) hT (t := t) (by rw [hd]; exact fun e => by cases e)
    have hut := und_str (kt.desc.trans hd)
    have gx := hv x (by rw [ho]; simp [Op.operands])
    rw [hx] at gx
    have ex : a.eval x = .string z := gx
    obtain ⟨h1, h2⟩ := hH.newObj (b0 := s.boxes.length) (cs := [.itr z 0]) (by simp) (.stringIter z 0) fun _ _ => .iter z 0 rfl (heap_alloc_new w _)
    refine xout_run (nx := .value (.pointer (some ⟨w.heap.size, 0, none⟩))) (w' := w.alloc (.stringIter z 0)) ?_ (.inl rfl) h rfl ⟨w.heap.size, ?_, rfl⟩ h1 (h2.congr (boxes_push _ _))
    ·simp [execOp, ho, ex, Instr.range, run_underlying hut, newObj]
     rfl
    ·show (if s.boxes.length = s.boxes.length then _ else _) = _
     rw [if_pos rfl]
   ·cases h
  ·cases h
 ·rename_i x ho
  split at h
  ·rename_i b hx
   split at h
   ·rename_i z pos hb
    split at h
    ·rename_i hdr
     obtain ⟨β, h1, hbx⟩ := hH.box b _ hb
     have hit := hbx.itr
     have gx := hv x (by rw [ho]; simp [Op.operands])
     rw [hx] at gx
     obtain ⟨β', h1', ex⟩ := gx
     rw [h1] at h1'
     obtain rfl := Option.some.inj h1'
     have hb' : b < s.boxes.length := (List.getElem?_eq_some_iff.1 hb).1
     split at h
     ·rename_i hp
      have hg : w.grownBy (turnTo w β (.stringIter z (pos + (Utf8.decode z pos).2))) (some β) := ⟨rfl, rfl, rfl, by simp [turnTo], fun i _ hi => turnTo_other (fun e => hi (by rw [e]))⟩
      obtain ⟨m1, m2⟩ := hH.turn h1 hg (cs := [.itr z (pos + (Utf8.decode z pos).2)]) fun _ => .iter z _ rfl (turnTo_same hit)
      refine xout_run (nx := .value (.tuple #[.bool true, .int .i64 pos, .int .i32 (Utf8.decode z pos).1])) (w' := turnTo w β (.stringIter z (pos + (Utf8.decode z pos).2))) ?_ (.inl rfl) h rfl ⟨_, rfl, ⟨_, _, rfl, rfl, ⟨_, _, rfl, rfl, ⟨_, _, rfl, rfl, rfl⟩⟩⟩⟩ m1 (m2.congr (boxes_set _ hb' _))
      simp [execOp, ho, ex, Instr.next, getObj, setObj, Sem.run, hit, hp, goInt, turnTo]
     ·rename_i hp
      refine xout_run (nx := .value (.tuple #[.bool false])) (w' := w) ?_ (.inl rfl) h rfl ⟨_, rfl, ⟨_, _, rfl, rfl, rfl⟩⟩ Mono.refl hH
      simp [execOp, ho, ex, Instr.next, getObj, Sem.run, hit, hp]
    ·cases h
   ·cases h
  ·cases h
 ·rename_i args argTypes ho
  split at h
  ·rename_i x y t t' hargs htys
   have hargs' : args = #[x, y] := by apply Array.ext'; simpa using hargs
   have htys' : argTypes = #[t, t'] := by apply Array.ext'; simpa using htys
   subst hargs'
   subst htys'
   have gx := hv x (by rw [ho]; simp [Op.operands, Call.operands])
   have gy := hv y (by rw [ho]; simp [Op.operands, Call.operands])
   split at h
   ·rename_i e b sz off n hd hx
    split at h
    ·rename_i hc
     split at h
     ·rename_i u l hr
      split at h
      ·rename_i hs
       split at h
       ·rename_i m hm
        obtain ⟨l', hl', hk⟩ := Option.bind_eq_some_iff.1 h
        exact copyRow_wp hT ho hH hd hx hc.1 hc.2 (rowOf_some hr) hs hm hl' gx gy hk
       ·cases h
      ·cases h
     ·split at h
      ·rename_i hs
       split at h
       ·rename_i z cs hy hb
        split at h
        ·rename_i hp
         split at h
         ·rename_i c hcc
          exact copyStr_wp hT ho hH hd hx hc.1 hc.2 hs.1 hy hb hp.1 hp.2 hcc gx gy h
         ·cases h
        ·cases h
       ·cases h
      ·cases h
    ·cases h
   ·cases h
  ·cases h
 ·split at h
  ·exact other h
  ·exact xm_sound hT hG hv hH h
variable {P : Program} {R : Type} {w0 : World} {σ0 : Nat → Nat → Prop} {ρ : Env} {σ : Nat → Nat → Prop} {w : World} {r : R}
theorem put_toList (a : Act) (dst : Option Tmp) (v : Value) : (a.put dst v).tmps.toList = (match dst with | none => a.tmps.toList | some d => a.tmps.toList.set d v) := by
 cases dst <;> simp [Act.put]
theorem RAs.put {base : Nat} {s : St} {a : Act} (h : RAs ρ base σ w s.tmps a.tmps.toList) (dst : Option Tmp) {av : AV} {v : Value} (g : RA ρ base σ w av v) : RAs ρ base σ w (s.put dst av).tmps (a.put dst v).tmps.toList := by
 rw [put_toList]
 cases dst with
 | none => exact h
 | some d => exact h.set d g
theorem St.put_boxes (s : St) (dst : Option Tmp) (v : AV) : (s.put dst v).boxes = s.boxes := by cases dst <;> rfl
theorem St.put_alive (s : St) (dst : Option Tmp) (v : AV) : (s.put dst v).alive = s.alive := by cases dst <;> rfl
theorem put_defers (a : Act) (dst : Option Tmp) (v : Value) : (a.put dst v).defers = a.defers := by cases dst <;> rfl
theorem Rel.put {s : St} {a : Act} (h : Rel P w0 σ0 ρ σ s a w) (dst : Option Tmp) {av : AV} {v : Value} (g : RA ρ w0.heap.size σ w av v) : Rel P w0 σ0 ρ σ (s.put dst av) (a.put dst v) w :=
 ⟨h.tmps.put dst g, by rw [St.put_boxes, St.put_alive]; exact h.heap⟩
theorem Rel.refine {s : St} {a : Act} (h : Rel P w0 σ0 ρ σ s a w) {t : Tmp} {av : AV} (g : ∀ v, a.tmps.toList[t]? = some v → RA ρ w0.heap.size σ w av v) : Rel P w0 σ0 ρ σ (s.put (some t) av) a w := by
 refine ⟨RAs.mk (by simp [St.put, h.tmps.length]) fun i b u x y => ?_, h.heap⟩
 change (s.tmps.set t av)[i]? = some b at x
 rw [List.getElem?_set] at x
 split at x
 ·rename_i e
  subst e
  split at x
  ·obtain rfl := Option.some.inj x; exact g u y
  ·cases x
 ·obtain ⟨u', hu, g'⟩ := h.tmps.get x
  rw [hu] at y
  obtain rfl := Option.some.inj y
  exact g'
def ROut (P : Program) (w0 : World) (σ0 : Nat → Nat → Prop) (ρ : Env) (σ : Nat → Nat → Prop) (w : World) (a : Act) (K : St → Option R) (r : R) : Act → World → Prop :=
 fun a' w' => ∃ s' ρ' σ', K s' = some r ∧ a'.defers = a.defers ∧ Mono ρ σ w ρ' σ' w' ∧ Rel P w0 σ0 ρ' σ' s' a' w'
def onlyNormal (Q : Act → World → Prop) : Exit → Act → World → Prop
 | .normal, a, w => Q a w
 | _, _, _ => False
theorem yielded_at {s : St} {a : Act} {base : Nat} (h : RAs ρ base σ w s.tmps a.tmps.toList) {ops : Array Oper} {j t : Nat} (ht : guardTmp ops j = some t) {p : Prop} {d : Decidable p} (hp : s.tmps.getD t .junk = .bool p d) :
  yielded ops a.tmps j = some (@decide p d) ∧ ∀ v, a.tmps.toList[t]? = some v → v = .bool (@decide p d) := by
 have h1 : s.tmps[t]? = some (.bool p d) := by
  rw [List.getD_eq_getElem?_getD] at hp
  cases hs : s.tmps[t]? with
  | none => rw [hs] at hp; cases hp
  | some x => rw [hs] at hp; exact congrArg some hp
 obtain ⟨v, hv, g⟩ := h.get h1
 have g : v = .bool (@decide p d) := g
 refine ⟨?_, fun u hu => by rw [hv] at hu; obtain rfl := Option.some.inj hu; exact g⟩
 unfold guardTmp at ht
 rw [Array.getElem?_toList] at hv
 simp [yielded, ht, hv, g]
theorem yielded_no {s : St} {a : Act} {base : Nat} (h : RAs ρ base σ w s.tmps a.tmps.toList) {ops : Array Oper} {j t : Nat} (ht : guardTmp ops j = some t) (hp : s.tmps.getD t .junk = .tup []) :
  yielded ops a.tmps j = none := by
 have h1 : s.tmps[t]? = some (.tup []) := by
  rw [List.getD_eq_getElem?_getD] at hp
  cases hs : s.tmps[t]? with
  | none => rw [hs] at hp; cases hp
  | some x => rw [hs] at hp; exact congrArg some hp
 obtain ⟨v, hv, vs, e, _⟩ := h.get h1
 unfold guardTmp at ht
 rw [Array.getElem?_toList] at hv
 simp [yielded, ht, hv, e]
theorem xops_sound {C : Ctx} (hT : TabOk P C.T) (hG : CtxOk P C) {dr : Bool} {ops : Array Oper} {K : St → Option R} {aa : Act} : ∀ (l : List Oper) {s : St} {a : Act} {ρ : Env} {σ : Nat → Nat → Prop} {w : World},
  xops C dr ops l s K = some r → Rel P w0 σ0 ρ σ s a w → a.defers = aa.defers → dr = false → ∀ {ρ1 : Env} {σ1 : Nat → Nat → Prop} {w1 : World}, Mono ρ1 σ1 w1 ρ σ w → wpList P ops (onlyNormal (ROut P w0 σ0 ρ1 σ1 w1 aa K r)) l a w
 | [], s, a, ρ, σ, w, h, hr, hd, hdr, ρ1, σ1, w1, m => ⟨s, ρ, σ, h, hd, m, hr⟩
 | o :: l, s, a, ρ, σ, w, h, hr, hd, hdr, ρ1, σ1, w1, m => by
  have skip : ∀ {s : St}, Rel P w0 σ0 ρ σ s a w → xops C dr ops l (s.put o.dst (.tup [])) K = some r → wpList P ops (onlyNormal (ROut P w0 σ0 ρ1 σ1 w1 aa K r)) l (a.put o.dst undef) w := fun hr h =>
   xops_sound hT hG l h (hr.put o.dst ⟨#[], rfl, rfl⟩) (by rw [put_defers]; exact hd) hdr m
  have doit : ∀ {s : St}, Rel P w0 σ0 ρ σ s a w → xsd C dr ops s o (fun v s' => xops C dr ops l (s'.put o.dst v) K) = some r → o.wp P a w (wpList P ops (onlyNormal (ROut P w0 σ0 ρ1 σ1 w1 aa K r)) l) (onlyNormal (ROut P w0 σ0 ρ1 σ1 w1 aa K r)) := fun hr h =>
   have h := (if_neg (by rw [hdr]; simp) : xsd C dr ops _ o _ = xs C dr _ o.op _).symm.trans h
   Oper.wp_mono (fun a' w' ⟨av, s', v, ρ', σ', h1, h2, h3, h4, h5, h6⟩ => by
    subst h2
    refine xops_sound hT hG l h1 ⟨?_, by rw [St.put_boxes, St.put_alive]; exact h6⟩ (by rw [put_defers]; exact hd) hdr (m.trans h5)
    have := RAs.mono h5 _ hr.tmps
    rw [← h3] at this
    exact this.put o.dst h4) (xs_sound hT hG (fun x _ => ev_sound hr.tmps x) hr.heap h)
  have unw : ∀ {g : Option (Nat × Bool)}, o.guard = g → Region.wanted o (yielded ops a.tmps) = (match g with | none => true | some (j, w) => yielded ops a.tmps j == some w) := fun hg => by subst hg; rfl
  unfold wpList
  simp only [xops] at h
  rw [if_neg (by rw [hdr]; simp)] at h
  split at h
  ·rename_i hg
   rw [if_pos (unw hg)]
   exact .inl (doit hr h)
  ·rename_i j wt hg
   have hw : Region.wanted o (yielded ops a.tmps) = (yielded ops a.tmps j == some wt) := unw hg
   split at h
   ·rename_i ht
    have hy : yielded ops a.tmps j = none := by unfold guardTmp at ht; simp [yielded, ht]
    rw [hy] at hw
    rw [if_neg (by rw [hw]; exact Bool.false_ne_true)]
    exact skip hr h
   ·rename_i t ht
    split at h
    ·rename_i p d hp
     obtain ⟨hy, hval⟩ := yielded_at hr.tmps ht hp
     rw [hy] at hw
     have hrT : p → Rel P w0 σ0 ρ σ (s.put (some t) (.bool True inferInstance)) a w := fun hpp => hr.refine fun v hv => by
      rw [hval v hv]; show Value.bool _ = Value.bool _; congr 1; simp [hpp]
     have hrF : ¬ p → Rel P w0 σ0 ρ σ (s.put (some t) (.bool False inferInstance)) a w := fun hpp => hr.refine fun v hv => by
      rw [hval v hv]; show Value.bool _ = Value.bool _; congr 1; simp [hpp]
     split at h
     ·rename_i hpp
      rw [show @decide p d = true from decide_eq_true hpp] at hw
      cases wt with
      | true => simp only [if_true] at h; rw [if_pos (by rw [hw]; rfl)]; exact .inl (doit (hrT hpp) h)
      | false => simp only [Bool.false_eq_true, if_false] at h; rw [if_neg (by rw [hw]; decide)]; exact skip (hrT hpp) h
     ·rename_i hpp
      rw [show @decide p d = false from decide_eq_false hpp] at hw
      cases wt with
      | true => simp only [if_true] at h; rw [if_neg (by rw [hw]; decide)]; exact skip (hrF hpp) h
      | false => simp only [Bool.false_eq_true, if_false] at h; rw [if_pos (by rw [hw]; rfl)]; exact .inl (doit (hrF hpp) h)
    ·rename_i hp
     have hy := yielded_no hr.tmps ht hp
     rw [hy] at hw
     rw [if_neg (by rw [hw]; exact Bool.false_ne_true)]
     exact skip hr h
    ·cases h
end Go.Proofs.YtkaihbkfobiejaaGreatDoor.Xe
