/- The executor: slices that are built, functions that are called, and all operations that read their operands alone. -/
import Derived.Test.YtnhogpbibcgpkaaXf
namespace Go.Proofs.Ytnhogpbibcgpkaa.Xe
open Go Go.RowKit
set_option linter.unusedVariables false
set_option linter.unusedSimpArgs false
variable {P : Program} {R : Type} {ρ : Env} {base : Nat} {σ : Nat → Nat → Prop} {w : World} {r : R} {K : AV → Option R}
def Out (ρ : Env) (base : Nat) (σ : Nat → Nat → Prop) (w : World) (K : AV → Option R) (r : R) (o : Oper) (a : Act) : Act → World → Prop :=
  fun a' w' => ∃ av v σ', K av = some r ∧ a' = a.put o.dst v ∧ RA ρ base σ' w' av v ∧ Grow σ w σ' w'
theorem out_run {o : Oper} {a : Act} {Q : Exit → Act → World → Prop} {v : Value} {w' : World} {av : AV} {σ' : Nat → Nat → Prop} (h : (execOp a.eval o).run P w = .ok (.value v) w') (hk : K av = some r) (g : RA ρ base σ' w' av v) (gr : Grow σ w σ' w') :
    o.wp P a w (Out ρ base σ w K r o a) Q := by
  unfold Oper.wp; rw [h]; exact ⟨av, v, σ', hk, rfl, g, gr⟩
theorem out_yields {o : Oper} {a : Act} {Q : Exit → Act → World → Prop} {s : Sem Value} (he : execOp a.eval o = (do pure (.value (← s)))) (hy : Yields P ρ base σ w K r s) (hσ : Fits σ w) :
    o.wp P a w (Out ρ base σ w K r o a) Q := by
  obtain ⟨av, v, h1, h2, h3⟩ := hy
  refine out_run (v := v) (w' := w) ?_ h2 h3 (Grow.refl hσ)
  rw [he]
  simp [h1]
theorem flat_get {α : Type} (l : List α) : ∀ (n i : Nat), (List.replicate n l).flatten[i]? = if i < n * l.length then l[i % l.length]? else none
  | 0, i => by simp
  | n + 1, i => by
    rw [List.replicate_succ, List.flatten_cons, List.getElem?_append]
    by_cases h : i < l.length
    · rw [if_pos h, if_pos (by rw [Nat.add_mul]; omega), Nat.mod_eq_of_lt h]
    · rw [if_neg h, flat_get l n]
      by_cases h2 : i < (n + 1) * l.length
      · rw [if_pos h2, if_pos (by rw [Nat.add_mul] at h2; omega), Nat.mod_eq_sub_mod (a := i) (b := l.length) (by omega)]
      · rw [if_neg h2, if_neg (by rw [Nat.add_mul] at h2; omega)]
theorem zeros_ra {z : Value} {n size : Nat} (hz : z.cells.size = size) :
    RAs ρ base σ w (List.replicate n (z.cells.toList.map ofLeaf)).flatten ((if n * size = 0 then #[] else ((Array.range (n * size)).map fun i => z.cells[i % z.cells.size]!) : Array Value)).toList := by
  by_cases h : n * size = 0
  · rw [if_pos h]
    have : (List.replicate n (z.cells.toList.map ofLeaf)).flatten = [] := by
      apply List.eq_nil_of_length_eq_zero
      simp [List.length_flatten, hz]
      rcases Nat.mul_eq_zero.1 h with h | h <;> simp [h]
    rw [this]; rfl
  · rw [if_neg h]
    refine RAs.mk ?_ fun i a v ha hv => ?_
    · simp [List.length_flatten, hz]
    · rw [flat_get] at ha
      split at ha
      · rename_i hi
        rw [List.length_map, Array.length_toList, hz] at hi ha
        have hsz : 0 < size := Nat.pos_of_ne_zero fun e => h (by rw [e, Nat.mul_zero])
        have hm : i % size < z.cells.size := by rw [hz]; exact Nat.mod_lt _ hsz
        simp only [List.getElem?_map, Array.getElem?_toList] at ha
        rw [Array.getElem?_eq_getElem hm] at ha
        simp only [Option.map_some, Option.some.injEq] at ha
        rw [Array.getElem?_toList] at hv
        simp only [Array.getElem?_map] at hv
        have hr : (Array.range (n * size))[i]? = some i := by simp [hi]
        rw [hr] at hv
        simp only [Option.map_some, Option.some.injEq] at hv
        have he : z.cells[i % z.cells.size]! = z.cells[i % size] := by
          rw [getElem!_pos z.cells (i % z.cells.size) (by rw [hz]; exact hm |> fun h => by rw [hz] at h; exact h)]
          congr 1
          rw [hz]
        rw [he] at hv
        rw [← ha, ← hv]
        exact RA.ofLeaf _
      · cases ha
theorem rows_sound {t : Ty} : ∀ {n : Nat} {cs : List AV} {l : List (El t)} {vs : List Value}, rowsOf t n cs = some l → RAs ρ base σ w cs vs → RLs (RE σ w t) l vs ∧ l.length = n
  | 0, [], l, vs, h, g => by simp only [rowsOf, Option.some.injEq] at h; subst h; exact ⟨g, rfl⟩
  | 0, _ :: _, _, _, h, _ => by simp [rowsOf] at h
  | n + 1, cs, l, vs, h, g => by
    simp only [rowsOf] at h
    split at h
    · rename_i x q hx
      split at h
      · rename_i l' hl
        obtain rfl := Option.some.inj h
        obtain ⟨u, v, rfl, k, g2⟩ := dec_sound hx g
        obtain ⟨h1, h2⟩ := rows_sound hl g2
        exact ⟨⟨u, v, rfl, k, h1⟩, by simp [h2]⟩
      · cases h
    · cases h
theorem built_sound {C : Ctx} (hT : TabOk P C.T) {ρv : Operand → AV} {a : Act} {t : TypeId} {n : Nat} {parts : List (Nat × Operand)} {L : (u : Ty) → List (El u) → Option R} (h : built C ρv t n parts L = some r)
    (hv : ∀ q ∈ parts, RA ρ base σ w (ρv q.2) (a.eval q.2)) :
    ∃ u l vs e, L u l = some r ∧ (Instr.buildSlice t n (parts.map fun q => (q.1, a.eval q.2)).toArray).run P w = .ok (.slice (some ⟨w.heap.size, 0, none⟩) n n) (w.alloc (.cells vs e)) ∧
      RLs (RE σ w u) l vs.toList ∧ l.length = n ∧ vs.size = n * u.sz ∧ n ≤ 16777216 := by
  unfold built at h
  split at h
  · rename_i e hd
    dsimp only at h
    split at h
    · rename_i u hu
      split at h
      · rename_i hc
        obtain ⟨c0, c1, c2, c3, c4⟩ := hc
        split at h
        · rename_i cs hcs
          split at h
          · rename_i l hl
            obtain ⟨i, z, kn⟩ := known (P := P) hT (t := t) (by rw [hd]; exact fun e => by cases e)
            have hund := und_sl (kn.desc.trans hd)
            have hz0 : (C.ti e).d ≠ .other := fun e => by rw [e] at c0; cases c0
            obtain ⟨ie, ze, ke⟩ := known (P := P) hT hz0
            have hzs : ze.cells.size = (C.ti e).size := by rw [← c1, ke.cells]; simp
            have gz := zeros_ra (ρ := ρ) (base := base) (σ := σ) (w := w) (n := n) hzs
            rw [← ke.cells] at gz
            obtain ⟨vo, f1, f2⟩ := fill_sound (vparts := parts.map fun q => (q.1, a.eval q.2)) hcs gz (by simp) (fun j i' a' hj => by
              rw [List.getElem?_map] at hj
              obtain ⟨q, hq, hqe⟩ := Option.map_eq_some_iff.1 hj
              simp only [Prod.mk.injEq] at hqe
              obtain ⟨rfl, rfl⟩ := hqe
              exact ⟨a.eval q.2, by rw [List.getElem?_map, hq]; rfl, hv q (List.mem_of_getElem? hq)⟩)
            obtain ⟨r1, r2⟩ := rows_sound hl f2
            have hvs : vo.size = n * u.sz := by rw [← Array.length_toList, r1.len, r2]
            refine ⟨u, l, vo, e, h, ?_, r1, r2, hvs, c4⟩
            have hlim : ¬ (n * (C.ti e).size > 2 ^ 24) := by omega
            have hs := ke.sizeOf w
            have hzv := ke.zeroValue w
            by_cases h0 : n * (C.ti e).size = 0
            · rw [if_pos h0] at f1
              have h0' : (Array.range (n * (C.ti e).size)).map (fun i => (#[] : Array Value)[i % (#[] : Array Value).size]!) = #[] := by rw [h0]; simp
              simp only [Instr.buildSlice, Sem.run_bind, run_underlying hund, Result.andThen_ok, hs, if_neg hlim, if_pos h0, Sem.run_pure, h0', f1, newRow, run_newObj]
              rfl
            · rw [if_neg h0] at f1
              simp only [Instr.buildSlice, Sem.run_bind, run_underlying hund, Result.andThen_ok, hs, if_neg hlim, if_neg h0, hzv, Sem.run_pure, f1, newRow, run_newObj]
              rfl
          · cases h
        · cases h
      · cases h
    · cases h
  · cases h
theorem ops_mem {x : Operand} {o : Op} {l : List Operand} (h : o.operands.toList = l) (hx : x ∈ l) : x ∈ o.operands.toList := by rw [h]; exact hx
/-- What a world has when a row of cells is new in it. -/
theorem grow_alloc (hσ : Fits σ w) (vs : Array Value) (e : TypeId) (n : Nat) (hn : n ≤ vs.size) :
    Grow σ w (fun b o => σ b o ∨ (b = w.heap.size ∧ o < n)) (w.alloc (.cells vs e)) ∧ Cs (fun b o => σ b o ∨ (b = w.heap.size ∧ o < n)) (w.alloc (.cells vs e)) w.heap.size 0 (vs.toList.take n) := by
  refine ⟨⟨(Below.refl _ w).alloc (Nat.le_refl _) _, fun _ _ h => .inl h, fun b o h => h.imp id fun h => by omega, fun b o h => ?_⟩, fun j v hv => ?_⟩
  · rw [World.size_alloc]
    rcases h with h | h
    · have := hσ b o h; omega
    · omega
  · have hj : j < n := by have := (List.getElem?_eq_some_iff.1 hv).1; rw [List.length_take] at this; omega
    refine ⟨.inr ⟨rfl, by omega⟩, ?_⟩
    rw [Nat.zero_add, World.cell?_alloc_new]
    rw [List.getElem?_take, if_pos hj] at hv
    simpa using hv
theorem callOf_sound {C : Ctx} (hG : ∀ c ∈ C.G, ConOk P c) {f : FuncId} {args : List AV} {vs : List Value} (h : callOf C f args K = some r) (g : RAs ρ base σ w args vs) (hσ : Fits σ w) :
    (callFunc f vs.toArray).run P w = .ok (.enter f vs.toArray) w ∧ Calls P f vs.toArray w fun e w' => ∃ v σ' av, e = .returned v ∧ K av = some r ∧ RA ρ base σ' w' av v ∧ Grow σ w σ' w' := by
  unfold callOf at h
  split at h
  · rename_i c hc
    have hm := List.mem_of_find?_eq_some hc
    have hid : c.id = f := by simpa using List.find?_some hc
    subst hid
    split at h
    · rename_i x hx
      obtain ⟨b, hb, hk⟩ := Option.bind_eq_some_iff.1 h
      have ok := hG c hm
      exact ⟨run_callFunc ok.there _ _, (ok.calls x b hb σ w vs hσ (decs_sound hx g)).mono fun e w' ⟨v, σ', e1, e2, e3⟩ => ⟨v, σ', _, e1, hk, e3.ra, e2⟩⟩
    · cases h
  · cases h
end Go.Proofs.Ytnhogpbibcgpkaa.Xe
