/- The executor: elements that are written; what looks at variables by the way. -/
import Derived.Test.YtnhogpbibcgpkaaXna
import Derived.Laws.OwnMore
import Derived.Laws.CopyRow
namespace Go.Proofs.Ytnhogpbibcgpkaa.Xe
open Go Go.RowKit
set_option linter.unusedVariables false
set_option linter.unusedSimpArgs false
variable {P : Program} {R : Type} {w0 : World} {σ0 : Nat → Nat → Prop} {ρ : Env} {σ : Nat → Nat → Prop} {w : World} {r : R}
theorem madeCells_succ (z : Array Value) (n : Nat) (hz : 0 < z.size) : (madeCells z ((n + 1) * z.size)).toList = z.toList ++ (madeCells z (n * z.size)).toList := by
  apply List.ext_getElem?
  intro j
  have hmul : (n + 1) * z.size = n * z.size + z.size := by rw [Nat.add_mul, Nat.one_mul]
  rw [List.getElem?_append]
  by_cases hj : j < z.size
  · rw [if_pos (by simpa using hj)]
    have h1 : j < (n + 1) * z.size := by omega
    simp [madeCells, h1, Nat.mod_eq_of_lt hj, hj]
  · rw [if_neg (by simpa using hj)]
    by_cases h1 : j < (n + 1) * z.size
    · have h2 : j - z.size < n * z.size := by omega
      have h3 : j % z.size = (j - z.size) % z.size := Nat.mod_eq_sub_mod (by omega)
      simp [madeCells, h1, h2, h3]
    · have h2 : ¬ j - z.size < n * z.size := by omega
      simp [madeCells, h1, h2]
theorem RLs.made {u : Ty} {z : El u} {zc : Array Value} (hz : RE σ w u z zc.toList) (h0 : 0 < u.sz) : ∀ n, RLs (RE σ w u) (List.replicate n z) (madeCells zc (n * u.sz)).toList
  | 0 => by simp [madeCells]; rfl
  | n + 1 => by
    have hs : zc.size = u.sz := by have := hz.len; simpa using this
    refine ⟨zc.toList, _, ?_, hz, RLs.made hz h0 n⟩
    have := madeCells_succ zc n (by omega)
    rw [hs] at this
    exact this
theorem RLs.set {u : Ty} : ∀ {l : List (El u)} {cs ys : List Value} {j : Nat} {y : El u}, RLs (RE σ w u) l cs → j < l.length → RE σ w u y ys → RLs (RE σ w u) (l.set j y) (cs.take (j * u.sz) ++ ys ++ cs.drop (j * u.sz + ys.length))
  | [], _, _, _, _, _, h, _ => by simp at h
  | x :: l, cs, ys, 0, y, ⟨a, b, e, g, k⟩, _, hy => by
    refine ⟨ys, b, ?_, hy, k⟩
    rw [e, hy.len]
    simp only [Nat.zero_mul, List.take_zero, List.nil_append, Nat.zero_add]
    rw [← g.len, List.drop_left]
  | x :: l, cs, ys, j + 1, y, ⟨a, b, e, g, k⟩, hj, hy => by
    refine ⟨a, _, ?_, g, RLs.set (j := j) k (by simpa using hj) hy⟩
    have h1 : (j + 1) * u.sz = a.length + j * u.sz := by rw [g.len, Nat.add_mul]; omega
    rw [e, h1, List.take_length_add_append, List.append_assoc, List.append_assoc, List.append_assoc, show a.length + j * u.sz + ys.length = a.length + (j * u.sz + ys.length) by omega, List.drop_length_add_append]
theorem RLs.over {u : Ty} {l m : List (El u)} {cs ms : List Value} {off k : Nat} (h : RLs (RE σ w u) l cs) (g : RLs (RE σ w u) m ms) (hk : k = m.length) : RLs (RE σ w u) (l.take off ++ m ++ l.drop (off + k)) (cs.take (off * u.sz) ++ ms ++ cs.drop (off * u.sz + ms.length)) := by
  have e : off * u.sz + ms.length = (off + k) * u.sz := by rw [g.len, Nat.add_mul, hk]
  rw [e]
  exact ((h.take' off).append g).append (h.drop' _)
theorem rowOf_some {s : St} {b : Nat} {u : Ty} {l : List (El u)} (h : rowOf s b = some ⟨u, l⟩) : s.boxes[b]? = some [.row u l] := by
  unfold rowOf at h
  split at h
  · rename_i t l' hb
    simp only [Option.some.injEq, Sigma.mk.injEq] at h
    obtain ⟨rfl, h⟩ := h
    rw [hb, eq_of_heq h]
  · cases h
theorem grown_setRow (w : World) (β : Nat) (vs : Array Value) : w.grownBy (w.setRow β vs) (some β) := ⟨rfl, rfl, rfl, by simp, fun k _ hk => setRow_other w β k vs (fun e => hk (by rw [e]))⟩
theorem make_wp {C : Ctx} (hT : TabOk P C.T) {s : St} {K : AV → St → Option R} {o : Oper} {a : Act} {Q : Exit → Act → World → Prop} {t e : TypeId} {n c : Operand} {u : Ty} {k k' : IntKind} {m : Int} {z : El u} (ho : o.op = .makeSlice t n c) (hH : HR P w0 σ0 ρ σ (fun b => s.boxes[b]?) s.alive w)
    (hd : (C.ti t).d = .sl e) (hk : (C.ti e).d.known = true) (hsz : u.sz = (C.ti e).size) (en : a.eval n = .int k m) (ec : a.eval c = .int k' m) (hz : dec u (C.ti e).zero = some (z, [])) (hb0 : 0 < (C.ti e).bytes)
    (h0 : 0 ≤ m) (hb : ((C.ti e).bytes : Int) * m ≤ 281474976710656) (h : K (.ms s.boxes.length u.sz 0 m.toNat) { s with boxes := s.boxes ++ [[.row u (List.replicate m.toNat z)]] } = some r) : o.wp P a w (XOut P w0 σ0 ρ σ w K r s o a) Q := by
  obtain ⟨i1, zt, kt⟩ := known (P := P) hT (t := t) (by rw [hd]; exact fun e => by cases e)
  have hut := und_sl (kt.desc.trans hd)
  obtain ⟨i2, ze, ke⟩ := addr_pos (P := P) hT hk
  obtain ⟨w', hr⟩ : ∃ w', w' = w.alloc (.cells (madeCells ze.cells (m.toNat * i2.size)) e) := ⟨_, rfl⟩
  have h63 : m ≤ 9223372036854775807 := by
    have h1 : (1 : Int) * m ≤ ((C.ti e).bytes : Int) * m := Int.mul_le_mul_of_nonneg_right (by omega) h0
    omega
  have hrun := run_make (P := P) w t e i2 ze hut ke.info ke.zero k k' m m h0 (Int.le_refl _) (by rw [ke.bytes]; exact hb) h63
  have hzc : RE σ w u z ze.cells.toList := by
    have := RAs.ofLeaf (ρ := ρ) (base := w0.heap.size) (σ := σ) (w := w) ze.cells.toList
    rw [← ke.cells] at this
    obtain ⟨x, y, e1, e2, e3⟩ := dec_sound hz this
    obtain rfl : y = [] := e3
    rw [e1, List.append_nil]; exact e2
  have key : RLs (RE σ w u) (List.replicate m.toNat z) (madeCells ze.cells (m.toNat * i2.size)).toList := by
    rw [ke.size, ← hsz]
    by_cases hu0 : u.sz = 0
    · have hl0 : ∀ n, RLs (RE σ w u) (List.replicate n z) ([] : List Value) := fun n => by
        have hz0 : ze.cells.toList = [] := List.eq_nil_of_length_eq_zero (by rw [hzc.len, hu0])
        induction n with
        | zero => rfl
        | succ n ih => exact ⟨[], [], rfl, by rw [← hz0]; exact hzc, ih⟩
      rw [hu0, Nat.mul_zero]
      simpa [madeCells] using hl0 m.toNat
    · exact RLs.made hzc (by omega) _
  obtain ⟨h1, h2⟩ := hH.newObj (b0 := s.boxes.length) (cs := [.row u (List.replicate m.toNat z)]) (by simp) (.cells (madeCells ze.cells (m.toNat * i2.size)) e) fun ρ' hm => .rows u _ _ e rfl (heap_alloc_new w _) (RLs.mono (fun _ _ => RE.mono hm.toKeeps) key)
  refine xout_run (nx := .value (.slice (some ⟨w.heap.size, 0, none⟩) m.toNat m.toNat)) ?_ (.inl rfl) h rfl ⟨_, _, rfl, Nat.le_refl _, .inr ⟨w.heap.size, 0, rfl, .inr ⟨?_, by simp⟩⟩⟩ h1 (h2.congr (boxes_push _ _))
  · simp [execOp, ho, en, ec, hrun]
  · show (if s.boxes.length = s.boxes.length then _ else _) = _
    rw [if_pos rfl]
theorem rowStore_wp {C : Ctx} (hT : TabOk P C.T) {s : St} {K : AV → St → Option R} {o : Oper} {a : Act} {Q : Exit → Act → World → Prop} {t : TypeId} {y x : Operand} {b sz j : Nat} {u : Ty} {l l' : List (El u)} {z : El u} (ho : o.op = .store t y x) (hH : HR P w0 σ0 ρ σ (fun b => s.boxes[b]?) s.alive w)
    (hy : ev s y = .mse b sz j) (hb : s.boxes[b]? = some [.row u l]) (hk : (C.ti t).d.known = true) (hs1 : u.sz = (C.ti t).size) (hs2 : sz = u.sz) (hx : (ev s x).cells.all AV.leaf = true) (hz : dec u (ev s x).cells = some (z, [])) (hl : lset l j z = some l')
    (gy : RA ρ w0.heap.size σ w (ev s y) (a.eval y)) (gx : RA ρ w0.heap.size σ w (ev s x) (a.eval x))
    (h : K (.tup []) { s with boxes := s.boxes.set b [.row u l'] } = some r) : o.wp P a w (XOut P w0 σ0 ρ σ w K r s o a) Q := by
  obtain ⟨it, zt, kn⟩ := addr_pos (P := P) hT hk
  obtain ⟨β, h1, hbx⟩ := hH.box b _ hb
  obtain ⟨us, e, h2, h3⟩ := hbx.row
  rw [hy] at gy
  obtain ⟨β', h1', ey⟩ := gy
  rw [h1] at h1'
  obtain rfl := Option.some.inj h1'
  unfold lset at hl
  split at hl
  · rename_i hj
    obtain rfl := Option.some.inj hl
    have gc := RA.cells hx gx
    have hzc : RE σ w u z (a.eval x).cells.toList := by
      obtain ⟨x', y', e1, e2, e3⟩ := dec_sound hz gc
      obtain rfl : y' = [] := e3
      rw [e1, List.append_nil]; exact e2
    have hvl : (a.eval x).cells.size = u.sz := by have := hzc.len; simpa using this
    have hus : us.toList.length = l.length * u.sz := h3.len
    have hfit : j * u.sz + 0 + (a.eval x).cells.toList.length ≤ us.size := by
      rw [Array.length_toList, hvl, ← Array.length_toList, hus, Nat.add_zero]
      have : (j + 1) * u.sz ≤ l.length * u.sz := Nat.mul_le_mul_right _ hj
      rw [Nat.add_mul] at this; omega
    have hst := run_storeCells_at P β (j * u.sz) e (a.eval x).cells.toList 0 us w h2 hfit (RA.ones hx gc)
    simp only [Nat.add_zero] at hst
    have hb' : b < s.boxes.length := (List.getElem?_eq_some_iff.1 hb).1
    obtain ⟨m1, m2⟩ := hH.turn h1 (grown_setRow w β (us.toList.take (j * u.sz) ++ (a.eval x).cells.toList ++ us.toList.drop (j * u.sz + (a.eval x).cells.toList.length)).toArray) (cs := [.row u (l.set j z)]) fun hm =>
      .rows u _ _ e rfl (setRow_heap w β us _ e (0, 0) h2) (RLs.mono (fun _ _ => RE.mono hm.toKeeps) (by simpa using RLs.set h3 hj hzc))
    refine xout_run (nx := .skip) (v := undef) ?_ (.inr ⟨rfl, rfl⟩) h rfl ⟨#[], rfl, rfl⟩ m1 (m2.congr (boxes_set _ hb' _))
    have hs := kn.sizeOf w
    rw [← hs1] at hs
    simp only [execOp, ho, ey, Instr.storeAt, Instr.sureAddr, storeVar, Sem.run_bind, Sem.run_pure, Result.andThen_ok, hs, hvl, ne_eq, not_true_eq_false, if_false, hs2, hst]
  · cases hl
/-! ### copy -/
theorem copy_none {t t' ty e : TypeId} {i : TypeInfo} {A : Option Addr} {n cap : Nat} {src : Value} (ht : P.underlying t = some (.slice e)) (hi : P.info? e = some i)
    (hs : (∃ B m c, src = .slice B m c ∧ min m n = 0) ∨ ∃ z, src = .string z ∧ min z.size n = 0) : (Builtin.copy_ #[t, t'] ty #[.slice A n cap, src]).run P w = .ok (goInt 0) w := by
  rcases hs with ⟨B, m, c, rfl, h0⟩ | ⟨z, rfl, h0⟩
  · have h0 : Nat.min m n = 0 := h0
    cases A <;> cases B <;> simp [Builtin.copy_, run_underlying ht, Builtin.lenOf, h0, Builtin.firstCells, Go.sizeOf, typeInfo, hi, storeCells, loadCells, loadCellsFrom]
  · have h0 : Nat.min z.size n = 0 := h0
    cases A <;> simp [Builtin.copy_, run_underlying ht, Builtin.lenOf, h0, Builtin.firstCells, Go.sizeOf, typeInfo, hi, storeCells]
theorem boxes_self (l : List (List AV)) {i : Nat} {c : List AV} (hi : l[i]? = some c) (b : Nat) : l[b]? = (l.set i c)[b]? := by
  rw [List.getElem?_set]
  by_cases h : i = b
  · subst h; rw [if_pos rfl, if_pos (List.getElem?_eq_some_iff.1 hi).1, hi]
  · rw [if_neg h]
theorem copyRow_wp {C : Ctx} (hT : TabOk P C.T) {s : St} {K : AV → St → Option R} {o : Oper} {a : Act} {Q : Exit → Act → World → Prop} {t t' e : TypeId} {x y : Operand} {b sz off n : Nat} {u : Ty} {l l' m : List (El u)}
    (ho : o.op = .call { callee := .builtin .copy, args := #[x, y], argTypes := #[t, t'] }) (hH : HR P w0 σ0 ρ σ (fun b => s.boxes[b]?) s.alive w) (hd : (C.ti t).d = .sl e) (hx : ev s x = .ms b sz off n) (hk : (C.ti e).d.known = true) (hs1 : sz = (C.ti e).size)
    (hb : s.boxes[b]? = some [.row u l]) (hs2 : sz = u.sz) (hm : listOf u (ev s y) = some m) (hl : lcopy l off n m = some l') (gx : RA ρ w0.heap.size σ w (ev s x) (a.eval x)) (gy : RA ρ w0.heap.size σ w (ev s y) (a.eval y))
    (h : K (.int .i64 ((min m.length n : Nat) : Int)) { s with boxes := s.boxes.set b [.row u l'] } = some r) : o.wp P a w (XOut P w0 σ0 ρ σ w K r s o a) Q := by
  obtain ⟨i1, zt, kt⟩ := known (P := P) hT (t := t) (by rw [hd]; exact fun e => by cases e)
  have hut := und_sl (kt.desc.trans hd)
  obtain ⟨i2, ze, ke⟩ := addr_pos (P := P) hT hk
  obtain ⟨β, h1, hbx⟩ := hH.box b _ hb
  obtain ⟨us, e', h2, h3⟩ := hbx.row
  rw [hx] at gx
  obtain ⟨A, cap, ex, hnc, hA⟩ := gx
  obtain ⟨B, c, ey, _, hB⟩ := row_at (listOf_sound hm gy)
  have hb' : b < s.boxes.length := (List.getElem?_eq_some_iff.1 hb).1
  unfold lcopy at hl
  split at hl
  · rename_i hfit
    obtain rfl := Option.some.inj hl
    by_cases hk0 : min m.length n = 0
    · have hrun := copy_none (P := P) (w := w) (t' := t') (ty := o.type) (A := A) (n := n) (cap := cap) hut ke.info (.inl ⟨B, m.length, c, ey, hk0⟩)
      have hl0 : l.take off ++ m.take n ++ l.drop (off + min m.length n) = l := by
        have : m.take n = [] := List.eq_nil_of_length_eq_zero (by rw [List.length_take]; omega)
        rw [this, List.append_nil, hk0, Nat.add_zero, List.take_append_drop]
      rw [hl0, hk0] at h
      refine xout_run (nx := .value (.int .i64 ((0 : Nat) : Int))) (w' := w) ?_ (.inl rfl) h rfl rfl Mono.refl (hH.congr (boxes_self _ hb))
      rw [← ex] at hrun
      simp [execOp, ho, resolve, invoke, builtin, hrun, goInt]
    · have hn0 : n ≠ 0 := by omega
      have hm0 : m.length ≠ 0 := by omega
      obtain ⟨β', o', eA, hA2⟩ := hA.resolve_left (fun hh => hn0 hh.2)
      subst eA
      obtain ⟨h1', ho'⟩ := hA2.resolve_left hn0
      rw [h1] at h1'
      obtain rfl := Option.some.inj h1'
      rcases hB with hm' | ⟨γ, go, ms, rfl, g1, g2⟩
      · exact absurd (by rw [hm']; rfl) hm0
      have g3 := g1.take' (min m.length n)
      have hml : (m.take (min m.length n)).length = min m.length n := by rw [List.length_take]; omega
      have hnl : (ms.take (min m.length n * u.sz)).length = min m.length n * u.sz := by rw [g3.len, hml]
      have hf := run_firstCells_some (P := P) w u.sz (min m.length n) ⟨γ, go, none⟩ m.length c (ms.take (min m.length n * u.sz)) hnl (fun j v hj => by rw [addr_add]; exact ((g2.take _) j v hj).2)
      have hus : us.toList.length = l.length * u.sz := h3.len
      have hfit2 : off * u.sz + 0 + (ms.take (min m.length n * u.sz)).length ≤ us.size := by
        rw [hnl, ← Array.length_toList, hus, Nat.add_zero, ← Nat.add_mul]
        exact Nat.mul_le_mul_right _ (by omega)
      have hst := run_storeCells_at P β (off * u.sz) e' (ms.take (min m.length n * u.sz)) 0 us w h2 hfit2 (RLs.one g3)
      simp only [Nat.add_zero] at hst
      have htk : m.take n = m.take (min m.length n) := by rw [List.take_eq_take_iff]; omega
      obtain ⟨m1, m2⟩ := hH.turn h1 (grown_setRow w β (us.toList.take (off * u.sz) ++ ms.take (min m.length n * u.sz) ++ us.toList.drop (off * u.sz + (ms.take (min m.length n * u.sz)).length)).toArray) (cs := [.row u (l.take off ++ m.take n ++ l.drop (off + min m.length n))]) fun hmm =>
        .rows u _ _ e' rfl (setRow_heap w β us _ e' (0, 0) h2) (RLs.mono (fun _ _ => RE.mono hmm.toKeeps) (by rw [htk]; simpa using RLs.over h3 g3 hml.symm))
      refine xout_run (nx := .value (.int .i64 ((min m.length n : Nat) : Int))) ?_ (.inl rfl) h rfl rfl m1 (m2.congr (boxes_set _ hb' _))
      have hs := ke.sizeOf w
      rw [← hs1, hs2] at hs
      have hmin : Nat.min m.length n = min m.length n := rfl
      rw [← hs2] at hst hf hs
      simp only [hs2] at hst hf hs ho' ⊢
      simp [execOp, ho, resolve, invoke, builtin, ex, ey, Builtin.copy_, run_underlying hut, Builtin.lenOf, hs, hmin, hf, ho', hst, goInt]
  · cases hl
theorem overStr_spec (z : ByteArray) : ∀ {l c : List AV} {i : Nat}, overStr z i l = some c → c.length = l.length ∧ ∀ (j : Nat) (v : AV), l[j]? = some v → ∃ n, v = AV.int .u8 n ∧ c[j]? = some (AV.int .u8 (scopy z (i + j) n))
  | [], c, i, h => by obtain rfl := Option.some.inj h; exact ⟨rfl, fun j v hv => by simp at hv⟩
  | .int k n :: l, c, i, h => by
    cases k <;> simp only [overStr] at h <;> try (cases h; done)
    split at h
    · rename_i l' hl'
      obtain rfl := Option.some.inj h
      obtain ⟨g1, g2⟩ := overStr_spec z hl'
      refine ⟨by simp [g1], fun j v hv => ?_⟩
      cases j with
      | zero => simp at hv; exact ⟨n, hv.symm, rfl⟩
      | succ j =>
        obtain ⟨n', e1, e2⟩ := g2 j v (by simpa using hv)
        exact ⟨n', e1, by rw [List.getElem?_cons_succ, e2, show i + 1 + j = i + (j + 1) by omega]⟩
    · cases h
theorem RAs.snoc_get {as : List AV} {vs : List Value} {base : Nat} (h : RAs ρ base σ w as vs) {j : Nat} {v : Value} (hv : vs[j]? = some v) : ∃ a, as[j]? = some a ∧ RA ρ base σ w a v := by
  have hj : j < as.length := by rw [← h.length]; exact (List.getElem?_eq_some_iff.1 hv).1
  obtain ⟨u, hu, g⟩ := h.get (List.getElem?_eq_getElem hj)
  rw [hv] at hu
  obtain rfl := Option.some.inj hu
  exact ⟨_, List.getElem?_eq_getElem hj, g⟩
theorem copyStr_wp {C : Ctx} (hT : TabOk P C.T) {s : St} {K : AV → St → Option R} {o : Oper} {a : Act} {Q : Exit → Act → World → Prop} {t t' e : TypeId} {x y : Operand} {b sz off n : Nat} {cs c : List AV} {z : ByteArray}
    (ho : o.op = .call { callee := .builtin .copy, args := #[x, y], argTypes := #[t, t'] }) (hH : HR P w0 σ0 ρ σ (fun b => s.boxes[b]?) s.alive w) (hd : (C.ti t).d = .sl e) (hx : ev s x = .ms b sz off n) (hk : (C.ti e).d.known = true) (hs1 : sz = (C.ti e).size)
    (hs2 : sz = 1) (hy : ev s y = .str z) (hb : s.boxes[b]? = some cs) (hpl : cs.all AV.plain = true) (hfit : off + n ≤ cs.length) (hc : overStr z 0 ((cs.drop off).take n) = some c) (gx : RA ρ w0.heap.size σ w (ev s x) (a.eval x)) (gy : RA ρ w0.heap.size σ w (ev s y) (a.eval y))
    (h : K (.int .i64 ((min z.size n : Nat) : Int)) { s with boxes := s.boxes.set b (cs.take off ++ c ++ cs.drop (off + n)) } = some r) : o.wp P a w (XOut P w0 σ0 ρ σ w K r s o a) Q := by
  obtain ⟨i1, zt, kt⟩ := known (P := P) hT (t := t) (by rw [hd]; exact fun e => by cases e)
  have hut := und_sl (kt.desc.trans hd)
  obtain ⟨i2, ze, ke⟩ := addr_pos (P := P) hT hk
  obtain ⟨β, h1, hbx⟩ := hH.box b _ hb
  obtain ⟨us, e', h2, h3⟩ := hbx.plain hpl
  rw [hx] at gx
  obtain ⟨A, cap, ex, hnc, hA⟩ := gx
  rw [hy] at gy
  have ey : a.eval y = .string z := gy
  have hb' : b < s.boxes.length := (List.getElem?_eq_some_iff.1 hb).1
  obtain ⟨c1, c2⟩ := overStr_spec z hc
  have hlen : ((cs.drop off).take n).length = n := by rw [List.length_take, List.length_drop]; omega
  rw [hlen] at c1
  have hus : us.toList.length = cs.length := h3.length
  -- the new cells, whatever was written
  obtain ⟨cl, hcl⟩ : ∃ cl : List Value, cl = (z.data.toList.take (min z.size n)).map fun b => Value.int .u8 b.toNat := ⟨_, rfl⟩
  have hzl : z.data.toList.length = z.size := by simp
  have hcll : cl.length = min z.size n := by rw [hcl, List.length_map, List.length_take, hzl]; omega
  have hcells : RAs ρ w0.heap.size σ w (cs.take off ++ c ++ cs.drop (off + n)) (us.toList.take off ++ cl ++ us.toList.drop (off + cl.length)) := by
    refine RAs.mk ?_ fun j av v hj hv => ?_
    · simp only [List.length_append, List.length_take, List.length_drop, hcll, c1, hus]; omega
    · rw [List.append_assoc, List.getElem?_append] at hj hv
      have e1 : (cs.take off).length = off := by rw [List.length_take]; omega
      have e2 : (us.toList.take off).length = off := by rw [List.length_take]; omega
      rw [e1] at hj
      rw [e2] at hv
      by_cases hjo : j < off
      · rw [if_pos hjo] at hj hv
        obtain ⟨v', hv', g⟩ := (h3.take off).get hj
        rw [hv'] at hv
        obtain rfl := Option.some.inj hv; exact g
      · rw [if_neg hjo] at hj hv
        rw [List.getElem?_append] at hj hv
        rw [c1] at hj
        rw [hcll] at hv
        by_cases hjn : j - off < n
        · rw [if_pos hjn] at hj
          have hjc : off + (j - off) < cs.length := by omega
          have hold : ((cs.drop off).take n)[j - off]? = some cs[off + (j - off)] := by
            rw [List.getElem?_take, if_pos hjn, List.getElem?_drop, List.getElem?_eq_getElem hjc]
          obtain ⟨m, e3, e4⟩ := c2 _ _ hold
          rw [e4, Nat.zero_add] at hj
          obtain rfl := Option.some.inj hj
          unfold scopy
          by_cases hz : j - off < z.size
          · rw [if_pos (by omega : j - off < min z.size n)] at hv
            rw [if_pos hz]
            rw [hcl, List.getElem?_map, List.getElem?_take, if_pos (by omega), List.getElem?_eq_getElem (by rw [hzl]; exact hz)] at hv
            simp only [Option.map_some, Option.some.injEq] at hv
            rw [← hv]
            show Value.int _ _ = Value.int _ _
            congr 2
            have hz2 : j - off < z.data.size := hz
            simp [Array.getD, hz2]
            rw [dif_pos hz]
          · rw [if_neg (by omega : ¬ j - off < min z.size n), List.getElem?_drop] at hv
            rw [if_neg hz]
            rw [show off + min z.size n + (j - off - min z.size n) = off + (j - off) by omega] at hv
            obtain ⟨a', ha', g⟩ := h3.snoc_get hv
            rw [List.getElem?_eq_getElem hjc, e3] at ha'
            obtain rfl := Option.some.inj ha'
            exact g
        · rw [if_neg hjn, List.getElem?_drop] at hj
          rw [if_neg (by omega), List.getElem?_drop] at hv
          rw [show off + n + (j - off - n) = j by omega] at hj
          rw [show off + min z.size n + (j - off - min z.size n) = j by omega] at hv
          obtain ⟨v', hv', g⟩ := h3.get hj
          rw [hv'] at hv
          obtain rfl := Option.some.inj hv; exact g
  by_cases hk0 : min z.size n = 0
  · have hrun := copy_none (P := P) (w := w) (t' := t') (ty := o.type) (A := A) (n := n) (cap := cap) hut ke.info (.inr ⟨z, rfl, hk0⟩)
    have hcl0 : cl = [] := List.eq_nil_of_length_eq_zero (by rw [hcll, hk0])
    rw [hcl0, List.append_nil, List.length_nil, Nat.add_zero, List.take_append_drop] at hcells
    rw [hk0] at h
    have hself : w.setRow β us = w := by rw [setRow_self w β us e' (0, 0) h2]
    obtain ⟨m1, m2⟩ := hH.turn h1 (grown_setRow w β us) (cs := cs.take off ++ c ++ cs.drop (off + n)) fun hm => .cells us e' (by rw [hself]; exact h2) (by rw [hself]; exact hcells)
    rw [hself] at m1 m2
    refine xout_run (nx := .value (.int .i64 ((0 : Nat) : Int))) (w' := w) ?_ (.inl rfl) h rfl rfl m1 (m2.congr (boxes_set _ hb' _))
    rw [← ex, ← ey] at hrun
    simp [execOp, ho, resolve, invoke, builtin, hrun, goInt]
  · have hn0 : n ≠ 0 := by omega
    obtain ⟨β', o', eA, hA2⟩ := hA.resolve_left (fun hh => hn0 hh.2)
    subst eA
    obtain ⟨h1', ho'⟩ := hA2.resolve_left hn0
    rw [h1] at h1'
    obtain rfl := Option.some.inj h1'
    rw [hs2, Nat.mul_one] at ho'
    have hone : ∀ v ∈ cl, v.oneCell' = true := fun v hv => by rw [hcl] at hv; obtain ⟨x, _, rfl⟩ := List.mem_map.1 hv; rfl
    have hst := run_storeCells_at P β off e' cl 0 us w h2 (by rw [hcll, ← Array.length_toList, hus]; omega) hone
    simp only [Nat.add_zero] at hst
    obtain ⟨m1, m2⟩ := hH.setBox h1 h2 (cs := cs.take off ++ c ++ cs.drop (off + n)) (vs := (us.toList.take off ++ cl ++ us.toList.drop (off + cl.length)).toArray) (by simpa using hcells)
    refine xout_run (nx := .value (.int .i64 ((min z.size n : Nat) : Int))) ?_ (.inl rfl) h rfl rfl m1 (m2.congr (boxes_set _ hb' _))
    have hs := ke.sizeOf w
    rw [← hs1, hs2] at hs
    have hmin : Nat.min z.size n = min z.size n := rfl
    have hf : (Builtin.firstCells 1 (min z.size n) (.string z)).run P w = .ok cl.toArray w := by
      simp only [Builtin.firstCells, Sem.run_pure]
      congr 1
      apply Array.ext'
      rw [hcl]
      simp [ByteArray.data_extract]
    simp [execOp, ho, resolve, invoke, builtin, ex, ey, Builtin.copy_, run_underlying hut, Builtin.lenOf, hs, hmin, hf, ho', hst, goInt]
end Go.Proofs.Ytnhogpbibcgpkaa.Xe
