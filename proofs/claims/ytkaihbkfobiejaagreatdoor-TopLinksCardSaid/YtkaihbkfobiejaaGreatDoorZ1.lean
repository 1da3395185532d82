import Derived.Test.YtkaihbkfobiejaaGreatDoorZ0
namespace Go.Proofs.YtkaihbkfobiejaaGreatDoor.Xe
open Go Go.RowKit
set_option linter.unusedVariables false
set_option linter.unusedSimpArgs false
variable {P : Program} {R : Type} {ρ : Env} {base : Nat} {σ : Nat → Nat → Prop} {w : World} {r : R} {K : AV → Option R}
def Out (ρ : Env) (base : Nat) (σ : Nat → Nat → Prop) (w : World) (K : AV → Option R) (r : R) (o : Oper) (a : Act) : Act → World → Prop :=
 fun a' w' => ∃ av v σ', K av = some r ∧ a' = a.put o.dst v ∧ RA ρ base σ' w' av v ∧ Grow σ w σ' w'
theorem out_run {o : Oper} {a : Act} {Q : Exit → Act → World → Prop} {v : Value} {w' : World} {av : AV} {σ' : Nat → Nat → Prop} (h : (execOp a.eval o).run P w = .ok (.value v) w') (hk : K av = some r) (g : RA ρ base σ' w' av v) (gr : Grow σ w σ' w') :
  o.wp P a w (Out ρ base σ w K r o a) Q := by
 unfold Oper.wp; rw [h]; exact ⟨av, v, σ', hk, rfl, g, gr⟩
theorem out_yields {o : Oper} {a : Act} {Q : Exit → Act → World → Prop} {s : Sem Value} (he : execOp a.eval o = (do pure (.value (← s)))) (hy : Yields P ρ base σ w K r s) (hσ : Fits σ w) :
  o.wp P a w (Out ρ base σ w K r o a) Q := by
 obtain ⟨av, v, h1, h2, h3⟩ := hy
 refine out_run (v := v) (w' := w) ?_ h2 h3 (Grow.refl hσ)
 rw [he]
 simp [h1]
theorem flat_get {α : Type} (l : List α) : ∀ (n i : Nat), (List.replicate n l).flatten[i]? = if i < n * l.length then l[i % l.length]? else none
 | 0, i => by simp
 | n + 1, i => by
  rw [List.replicate_succ, List.flatten_cons, List.getElem?_append]
  by_cases h : i < l.length
  ·rw [if_pos h, if_pos (by rw [Nat.add_mul]; omega), Nat.mod_eq_of_lt h]
  ·rw [if_neg h, flat_get l n]
   by_cases h2 : i < (n + 1) * l.length
   ·rw [if_pos h2, if_pos (by rw [Nat.add_mul] at h2; omega), Nat.mod_eq_sub_mod (a := i) (b := l.length) (by omega)]
   ·rw [if_neg h2, if_neg (by rw [Nat.add_mul] at h2; omega)]
theorem zeros_ra {z : Value} {n size : Nat} (hz : z.cells.size = size) :
  RAs ρ base σ w (List.replicate n (z.cells.toList.map ofLeaf)).flatten ((if n * size = 0 then #[] else ((Array.range (n * size)).map fun i => z.cells[i % z.cells.size]!) : Array Value)).toList := by
 by_cases h : n * size = 0
 ·rw [if_pos h]
  have : (List.replicate n (z.cells.toList.map ofLeaf)).flatten = [] := by
   apply List.eq_nil_of_length_eq_zero
   simp [List.length_flatten, hz]
   rcases Nat.mul_eq_zero.1 h with h | h <;> simp [h]
  rw [this]; rfl
 ·rw [if_neg h]
  refine RAs.mk ?_ fun i a v ha hv => ?_
  ·simp [List.length_flatten, hz]
  ·rw [flat_get] at ha
   split at ha
   ·rename_i hi
    rw [List.length_map, Array.length_toList, hz] at hi ha
    have hsz : 0 < size := Nat.pos_of_ne_zero fun e => h (by rw [e, Nat.mul_zero])
    have hm : i % size < z.cells.size := by rw [hz]; exact Nat.mod_lt _ hsz
    simp only [List.getElem?_map, Array.getElem?_toList] at ha
    rw [Array.getElem?_eq_getElem hm] at ha
    simp only [Option.map_some, Option.some.injEq] at ha
    rw [Array.getElem?_toList] at hv
    simp only [Array.getElem?_map] at hv
    have hr : (Array.range (n * size))[i]? = some i := by simp [hi]
    rw [hr] at hv
    simp only [Option.map_some, Option.some.injEq] at hv
    have he : z.cells[i % z.cells.size]! = z.cells[i % size] := by
     rw [getElem!_pos z.cells (i % z.cells.size) (by rw [hz]; exact hm |> fun h => by rw [hz] at h; exact h)]
     congr 1
     rw [hz]
    rw [he] at hv
    rw [← ha, ← hv]
    exact RA.ofLeaf _
   ·cases ha
theorem rows_sound {t : Ty} : ∀ {n : Nat} {cs : List AV} {l : List (El t)} {vs : List Value}, rowsOf t n cs = some l → RAs ρ base σ w cs vs → RLs (RE σ w t) l vs ∧ l.length = n
 | 0, [], l, vs, h, g => by simp only [rowsOf, Option.some.injEq] at h; subst h; exact ⟨g, rfl⟩
 | 0, _ :: _, _, _, h, _ => by simp [rowsOf] at h
 | n + 1, cs, l, vs, h, g => by
  simp only [rowsOf] at h
  split at h
  ·rename_i x q hx
   split at h
   ·rename_i l' hl
    obtain rfl := Option.some.inj h
    obtain ⟨u, v, rfl, k, g2⟩ := dec_sound hx g
    obtain ⟨h1, h2⟩ := rows_sound hl g2
    exact ⟨⟨u, v, rfl, k, h1⟩, by simp [h2]⟩
   ·cases h
  ·cases h
theorem built_sound {C : Ctx} (hT : TabOk P C.T) {ρv : Operand → AV} {a : Act} {t : TypeId} {n : Nat} {parts : List (Nat × Operand)} {L : (u : Ty) → List (El u) → Option R} (h : built C ρv t n parts L = some r)
  (hv : ∀ q ∈ parts, RA ρ base σ w (ρv q.2) (a.eval q.2)) :
  ∃ u l vs e, L u l = some r ∧ (Instr.buildSlice t n (parts.map fun q => (q.1, a.eval q.2)).toArray).run P w = .ok (.slice (some ⟨w.heap.size, 0, none⟩) n n) (w.alloc (.cells vs e)) ∧
   RLs (RE σ w u) l vs.toList ∧ l.length = n ∧ vs.size = n * u.sz ∧ n ≤ 16777216 := by
 unfold built at h
 split at h
 ·rename_i e hd
  dsimp only at h
  split at h
  ·rename_i u hu
   split at h
   ·rename_i hc
    obtain ⟨c0, c1, c2, c3, c4⟩ := hc
    split at h
    ·rename_i cs hcs
     split at h
     ·rename_i l hl
      obtain ⟨i, z, kn⟩ := known (P := P) hT (t := t) (by rw [hd]; exact fun e => by cases e)
      have hund := und_sl (kn.desc.trans hd)
      have hz0 : (C.ti e).d ≠ .other := fun e => by rw [e] at c0; cases c0
      obtain ⟨ie, ze, ke⟩ := known (P := P) hT hz0
      have hzs : ze.cells.size = (C.ti e).size := by rw [← c1, ke.cells]; simp
      have gz := zeros_ra (ρ := ρ) (base := base) (σ := σ) (w := w) (n := n) hzs
      rw [← ke.cells] at gz
      obtain ⟨vo, f1, f2⟩ := fill_sound (vparts := parts.map fun q => (q.1, a.eval q.2)) hcs gz (by simp) (fun j i' a' hj => by
       rw [List.getElem?_map] at hj
       obtain ⟨q, hq, hqe⟩ := Option.map_eq_some_iff.1 hj
       simp only [Prod.mk.injEq] at hqe
       obtain ⟨rfl, rfl⟩ := hqe
       exact ⟨a.eval q.2, by rw [List.getElem?_map, hq]; rfl, hv q (List.mem_of_getElem? hq)⟩)
      obtain ⟨r1, r2⟩ := rows_sound hl f2
      have hvs : vo.size = n * u.sz := by rw [← Array.length_toList, r1.len, r2]
      refine ⟨u, l, vo, e, h, ?_, r1, r2, hvs, c4⟩
      have hlim : ¬ (n * (C.ti e).size > 2 ^ 24) := by omega
      have hs := ke.sizeOf w
      have hzv := ke.zeroValue w
      by_cases h0 : n * (C.ti e).size = 0
      ·rw [if_pos h0] at f1
       have h0' : (Array.range (n * (C.ti e).size)).map (fun i => (#[] : Array Value)[i % (#[] : Array Value).size]!) = #[] := by rw [h0]; simp
       simp only [Instr.buildSlice, Sem.run_bind, run_underlying hund, Result.andThen_ok, hs, if_neg hlim, if_pos h0, Sem.run_pure, h0', f1, newRow, run_newObj]
       rfl
      ·rw [if_neg h0] at f1
       simp only [Instr.buildSlice, Sem.run_bind, run_underlying hund, Result.andThen_ok, hs, if_neg hlim, if_neg h0, hzv, Sem.run_pure, f1, newRow, run_newObj]
       rfl
     ·cases h
    ·cases h
   ·cases h
  ·cases h
 ·cases h
theorem grow_alloc (hσ : Fits σ w) (vs : Array Value) (e : TypeId) (n : Nat) (hn : n ≤ vs.size) :
  Grow σ w (fun b o => σ b o ∨ (b = w.heap.size ∧ o < n)) (w.alloc (.cells vs e)) ∧ Cs (fun b o => σ b o ∨ (b = w.heap.size ∧ o < n)) (w.alloc (.cells vs e)) w.heap.size 0 (vs.toList.take n) := by
 refine ⟨⟨(Below.refl _ w).alloc (Nat.le_refl _) _, fun _ _ h => .inl h, fun b o h => h.imp id fun h => by omega, fun b o h => ?_⟩, fun j v hv => ?_⟩
 ·rw [World.size_alloc]
  rcases h with h | h
  ·have := hσ b o h; omega
  ·omega
 ·have hj : j < n := by have := (List.getElem?_eq_some_iff.1 hv).1; rw [List.length_take] at this; omega
  refine ⟨.inr ⟨rfl, by omega⟩, ?_⟩
  rw [Nat.zero_add, World.cell?_alloc_new]
  rw [List.getElem?_take, if_pos hj] at hv
  simpa using hv
theorem callOf_sound {C : Ctx} (hG : ∀ c ∈ C.G, ConOk P c) {f : FuncId} {args : List AV} {vs : List Value} (h : callOf C f args K = some r) (g : RAs ρ base σ w args vs) (hσ : Fits σ w) :
  (callFunc f vs.toArray).run P w = .ok (.enter f vs.toArray) w ∧ Calls P f vs.toArray w fun e w' => ∃ v σ' av, e = .returned v ∧ K av = some r ∧ RA ρ base σ' w' av v ∧ Grow σ w σ' w' := by
 unfold callOf at h
 split at h
 ·rename_i c hc
  have hm := List.mem_of_find?_eq_some hc
  have hid : c.id = f := by simpa using List.find?_some hc
  subst hid
  split at h
  ·rename_i x hx
   obtain ⟨b, hb, hk⟩ := Option.bind_eq_some_iff.1 h
   have ok := hG c hm
   exact ⟨run_callFunc ok.there _ _, (ok.calls x b hb σ w vs hσ (decs_sound hx g)).mono fun e w' ⟨v, σ', e1, e2, e3⟩ => ⟨v, σ', _, e1, hk, e3.ra, e2⟩⟩
  ·cases h
 ·cases h
variable {P : Program} {R : Type} {ρ : Env} {base : Nat} {σ : Nat → Nat → Prop} {w : World} {r : R} {K : AV → Option R}
theorem run_equalIn_np (w : World) (d : Nat) (t e : TypeId) (A : Addr) (h : P.underlying t = some (.pointer e)) : (Op.equalIn (d + 1) t (.pointer (some A)) (.pointer none)).run P w = .ok false w := by
 simp only [Op.equalIn, Sem.run_bind, run_underlying h, Result.andThen_ok, Sem.run_pure]
theorem run_eql_np (w : World) (t e : TypeId) (A : Addr) (h : P.underlying t = some (.pointer e)) : (binOp .eql t (.pointer (some A)) (.pointer none)).run P w = .ok (.bool false) w := by
 simp only [binOp]
 simp only [Sem.run_bind, show (Op.equal t (.pointer (some A)) (.pointer none)).run P w = .ok false w from run_equalIn_np w 9999 t e A h, Result.andThen_ok, Sem.run_pure]
theorem run_neq_np (w : World) (t e : TypeId) (A : Addr) (h : P.underlying t = some (.pointer e)) : (binOp .neq t (.pointer (some A)) (.pointer none)).run P w = .ok (.bool true) w := by
 simp only [binOp]
 simp only [Sem.run_bind, show (Op.equal t (.pointer (some A)) (.pointer none)).run P w = .ok false w from run_equalIn_np w 9999 t e A h, Result.andThen_ok, Sem.run_pure]
 rfl
theorem guard_np (op : BinOp) (t : TypeId) (x y : Operand) (A B : Option Addr) : eqGuard op t x y (.pointer A) (.pointer B) = pure () := by
 unfold eqGuard
 split <;> rfl
theorem binop_yields {C : Ctx} (hT : TabOk P C.T) {op : BinOp} {xt yt : TypeId} {x y : Operand} {ρv : Operand → AV} {a : Act} (h : xa C ρv (.binOp op xt x y yt) K = some r)
  (gx : RA ρ base σ w (ρv x) (a.eval x)) (gy : RA ρ base σ w (ρv y) (a.eval y)) : Yields P ρ base σ w K r (do eqGuard op xt x y (a.eval x) (a.eval y); binOp op xt (a.eval x) (a.eval y)) := by
 have strip : ∀ {s : Sem Value}, eqGuard op xt x y (a.eval x) (a.eval y) = pure () → Yields P ρ base σ w K r s → Yields P ρ base σ w K r (do eqGuard op xt x y (a.eval x) (a.eval y); s) := by
  intro s e ⟨av, v, h1, h2, h3⟩
  exact ⟨av, v, by rw [e]; exact h1, h2, h3⟩
 simp only [xa] at h
 split at h
 ·rename_i k m l n hx hy
  rw [hx] at gx; rw [hy] at gy
  have ex : a.eval x = .int k m := gx
  have ey : a.eval y = .int l n := gy
  refine strip (by rw [ex]; exact eqGuard_at_int ..) ?_
  rw [ex, ey]
  split at h
  ·exact shop_sound h
  ·exact shop_sound h
  ·rename_i h1 h2
   split at h
   ·rename_i hk; subst hk; exact bop_sound h (fun e => h1 e) (fun e => h2 e)
   ·cases h
 ·rename_i s t hx hy
  rw [hx] at gx; rw [hy] at gy
  have ex : a.eval x = .string s := gx
  have ey : a.eval y = .string t := gy
  refine strip (by rw [ex]; exact eqGuard_at_string ..) ?_
  rw [ex, ey]
  exact sop_sound h
 ·rename_i p d q e hx hy
  rw [hx] at gx; rw [hy] at gy
  have ex : a.eval x = .bool (@decide p d) := gx
  have ey : a.eval y = .bool (@decide q e) := gy
  refine strip (by rw [ex]; exact eqGuard_at_bool ..) ?_
  rw [ex, ey]
  split at h
  ·rename_i hd
   obtain ⟨i, z, kn⟩ := known (P := P) hT (t := xt) (by rw [hd]; exact fun e => by cases e)
   have hu := und_bool (kn.desc.trans hd)
   exact yields_of (run_eql_bool w xt _ _ hu) h (by show Value.bool _ = Value.bool _; congr 1)
  ·rename_i hd
   obtain ⟨i, z, kn⟩ := known (P := P) hT (t := xt) (by rw [hd]; exact fun e => by cases e)
   have hu := und_bool (kn.desc.trans hd)
   exact yields_of (run_neq_bool w xt _ _ hu) h (by show Value.bool _ = Value.bool _; congr 1; cases @decide p d <;> cases @decide q e <;> rfl)
  ·cases h
 ·rename_i b i hx hy
  rw [hx] at gx; rw [hy] at gy
  obtain ⟨β, _, ex⟩ := gx
  have ey : a.eval y = .pointer none := gy
  refine strip (by rw [ex, ey]; exact guard_np ..) ?_
  rw [ex, ey]
  have und : (C.ti xt).d = .cell → (C.ti xt).eq = true → ∃ e, P.underlying xt = some (.pointer e) := fun hd he => by
   obtain ⟨i, z, kn⟩ := known (P := P) hT (t := xt) (by rw [hd]; exact fun e => by cases e)
   have q0 := kn.eq he
   have q1 := kn.desc
   rw [hd] at q0 q1
   simp only [D.isBool, Bool.false_eq_true, if_false, Bool.and_eq_true] at q0
   have q2 := q0.2
   unfold namesOk at q2
   split at q2
   ·rename_i hu; rw [hu] at q1; cases q1
   ·rename_i hu; exact ⟨_, hu⟩
   ·cases q2
  split at h
  ·rename_i hd
   split at h
   ·rename_i he
    obtain ⟨e, hu⟩ := und hd he
    exact yields_of (run_eql_np w xt e _ hu) h rfl
   ·cases h
  ·rename_i hd
   split at h
   ·rename_i he
    obtain ⟨e, hu⟩ := und hd he
    exact yields_of (run_neq_np w xt e _ hu) h rfl
   ·cases h
  ·cases h
 ·rename_i xs ys hx hy
  rw [hx] at gx; rw [hy] at gy
  obtain ⟨us, ex, gx⟩ := gx
  obtain ⟨vs, ey, gy⟩ := gy
  split at h
  ·rename_i fs hd
   split at h
   ·rename_i hc
    obtain ⟨p, d, hq, hk⟩ := sameK_sound h
    obtain ⟨i, z, kn⟩ := known (P := P) hT (t := xt) (by rw [hd]; exact fun e => by cases e)
    obtain ⟨f, hu, hf⟩ := und_st (kn.desc.trans hd)
    have q0 := kn.eq hc.1
    rw [hd] at q0
    simp only [D.isBool, Bool.false_eq_true, if_false, Bool.and_eq_true, Bool.not_eq_true'] at q0
    obtain ⟨q1, q2⟩ := q0
    have hfo : P.fieldsOf xt = f := by simp [Program.fieldsOf, hu]
    have hnm : ∀ x ∈ f.toList, x.name ≠ "_" := by
     rw [hu] at q2
     simp only [namesOk, List.all_eq_true, bne_iff_ne] at q2
     exact q2
    have hoff : f.toList.map (·.offset) = List.range' 0 f.toList.length := by
     have h2 := hc.2
     rw [← hf] at h2
     simpa [List.range_eq_range', List.map_map, Function.comp_def] using h2
    have hsc : ∀ x ∈ f.toList, ∃ D0 : D, mkD (P.underlying x.type) = D0 ∧ D0.scal = true := by
     intro x hx
     have : ∀ (l : List Field) (as bs : List AV) (p : Prop) (d : Decidable p), same (l.map fun f => (C.ti f.type).d) as bs = some ⟨p, d⟩ → ∀ x ∈ l, (C.ti x.type).d.scal = true := by
      intro l
      induction l with
      | nil => intro _ _ _ _ _ x hx; cases hx
      | cons y l ih =>
       intro as bs p d hs x hx
       rw [List.map_cons] at hs
       cases as with
       | nil => simp [same] at hs
       | cons b as =>
       cases bs with
       | nil => simp [same] at hs
       | cons c bs =>
       obtain ⟨p1, d1, p2, d2, s1, s2, _⟩ := same_cons hs
       rcases List.mem_cons.1 hx with rfl | hx
       ·have s1 : same [(C.ti x.type).d] [b] [c] = some ⟨p1, d1⟩ := s1
        have hsc := sc_of s1
        generalize (C.ti x.type).d = dd at hsc ⊢
        cases hsc <;> rfl
       ·exact ih as bs p2 d2 s2 x hx
     have hq' : same (f.toList.map fun f => (C.ti f.type).d) xs ys = some ⟨p, d⟩ := by rw [← hf] at hq; simpa [List.map_map, Function.comp_def] using hq
     have hs := this _ _ _ _ _ hq' x hx
     have hne : (C.ti x.type).d ≠ .other := fun e => by rw [e] at hs; cases hs
     obtain ⟨i', z', kn'⟩ := known (P := P) hT hne
     exact ⟨_, kn'.desc, hs⟩
    have hgd : P.eqGuardType P.depth xt = false := by
     unfold Program.depth
     rw [show 2 * (P.types.size + Made.depth) + 2 = (2 * (P.types.size + Made.depth) + 1) + 1 from rfl]
     rw [Program.eqGuardType, hu]
     simp only
     rw [Array.any_eq_false]
     intro j hj
     obtain ⟨D0, e1, e2⟩ := hsc f[j] (by simp)
     have : P.eqGuardType (2 * (P.types.size + Made.depth) + 1) f[j].type = false := by
      rw [Program.eqGuardType]
      cases hu' : P.underlying f[j].type with
      | none => rfl
      | some u => cases u <;> first | rfl | (rw [hu'] at e1; rw [← e1] at e2; cases e2)
     simp [this]
    have hstrip : (eqGuard op xt x y (a.eval x) (a.eval y)).run P w = .ok () w := by rw [ex, ey]; exact run_eqGuard_agg w op xt x y us vs hgd
    have he : (Op.equalIn 10000 xt (.agg us) (.agg vs)).run P w = .ok (@decide p d) w := by
     rw [run_equalIn_struct w 9999 xt us vs (by rw [hfo]; exact hu) q1, hfo]
     exact fields_eq hT 9998 us vs f.toList 0 xs ys p d (by rw [← hf] at hq; simpa [List.map_map, Function.comp_def] using hq) (by simpa using gx) (by simpa using gy) hoff hnm
    obtain ⟨av, v, h1, h2, h3⟩ := agg_sound (ρ := ρ) (base := base) (σ := σ) he hk
    exact ⟨av, v, by rw [Sem.run_bind, hstrip, ex, ey]; exact h1, h2, h3⟩
   ·cases h
  ·rename_i n e hd
   split at h
   ·rename_i hc
    obtain ⟨p, d, hq, hk⟩ := sameK_sound h
    obtain ⟨i, z, kn⟩ := known (P := P) hT (t := xt) (by rw [hd]; exact fun e => by cases e)
    have hu := und_arr (kn.desc.trans hd)
    have hs : (C.ti e).d.scal = true := by
     obtain ⟨m, rfl⟩ : ∃ m, n = m + 1 := ⟨n - 1, by omega⟩
     rw [List.replicate_succ] at hq
     cases xs with
     | nil => simp [same] at hq
     | cons b as =>
     cases ys with
     | nil => simp [same] at hq
     | cons c bs =>
     obtain ⟨p1, d1, p2, d2, s1, s2, _⟩ := same_cons hq
     have hsc := sc_of s1
     generalize (C.ti e).d = dd at hsc ⊢
     cases hsc <;> rfl
    have hne : (C.ti e).d ≠ .other := fun e => by rw [e] at hs; cases hs
    obtain ⟨i', z', kn'⟩ := known (P := P) hT hne
    have hgd : P.eqGuardType P.depth xt = false := by
     unfold Program.depth
     rw [show 2 * (P.types.size + Made.depth) + 2 = (2 * (P.types.size + Made.depth) + 1) + 1 from rfl]
     rw [Program.eqGuardType, hu]
     simp only
     have e1 := kn'.desc
     rw [Program.eqGuardType]
     cases hu' : P.underlying e with
     | none => rfl
     | some u => cases u <;> first | rfl | (rw [hu'] at e1; rw [← e1] at hs; cases hs)
    have hstrip : (eqGuard op xt x y (a.eval x) (a.eval y)).run P w = .ok () w := by rw [ex, ey]; exact run_eqGuard_agg w op xt x y us vs hgd
    have he : (Op.equalIn 10000 xt (.agg us) (.agg vs)).run P w = .ok (@decide p d) w := by
     have hsz := kn'.sizeOf w
     have hr := range_eq (ρ := ρ) (base := base) (σ := σ) kn' 9998 us vs hc.2 n 0 xs ys p d hq (by simpa using gx) (by simpa using gy)
     rw [Op.equalIn]
     simp only [Sem.run_bind, run_underlying hu, Result.andThen_ok, hsz]
     simp only [Std.Legacy.Range.forIn_eq_forIn_range']
     rw [show ([:n] : Std.Legacy.Range).size = n by simp [Std.Legacy.Range.size]]
     refine Eq.trans (congrArg _ (funext fun q => funext fun w' => ?_)) hr
     cases q.fst <;> rfl
    obtain ⟨av, v, h1, h2, h3⟩ := agg_sound (ρ := ρ) (base := base) (σ := σ) he hk
    exact ⟨av, v, by rw [Sem.run_bind, hstrip, ex, ey]; exact h1, h2, h3⟩
   ·cases h
  ·cases h
 ·cases h
variable {P : Program} {R : Type} {ρ : Env} {base : Nat} {σ : Nat → Nat → Prop} {w : World} {r : R} {K : AV → Option R}
theorem maps_ra {ρv : Operand → AV} {a : Act} : ∀ {l : List Operand}, (∀ x ∈ l, RA ρ base σ w (ρv x) (a.eval x)) → RAs ρ base σ w (l.map ρv) (l.map a.eval)
 | [], _ => rfl
 | x :: l, h => ⟨_, _, rfl, h x (List.mem_cons_self ..), maps_ra fun y hy => h y (List.mem_cons_of_mem _ hy)⟩
theorem row_at {t : Ty} {l : List (El t)} {v : Value} (h : RE σ w (.sl t) l [v]) : ∃ A cap, v = .slice A l.length cap ∧ l.length ≤ cap ∧ (l = [] ∨ ∃ β off cs, A = some ⟨β, off, none⟩ ∧ RLs (RE σ w t) l cs ∧ Cs σ w β off cs) := by
 obtain ⟨A, c, e, h1, h2⟩ := h
 simp only [List.cons.injEq, and_true] at e
 exact ⟨A, c, e, h1, h2⟩
theorem RLs.take' {t : Ty} : ∀ {l : List (El t)} {cs : List Value} (n : Nat), RLs (RE σ w t) l cs → RLs (RE σ w t) (l.take n) (cs.take (n * t.sz))
 | [], cs, n, h => by rw [show cs = [] from h]; simp [RLs]
 | x :: l, cs, 0, h => by simp [RLs]
 | x :: l, cs, n + 1, ⟨a, b, e, g, k⟩ => by
  refine ⟨a, b.take (n * t.sz), ?_, g, RLs.take' n k⟩
  rw [e, List.take_append, g.len, List.take_of_length_le (by rw [g.len, Nat.add_mul]; omega)]
  congr 1
  rw [Nat.add_mul, Nat.one_mul, Nat.add_sub_cancel]
theorem RLs.drop' {t : Ty} : ∀ {l : List (El t)} {cs : List Value} (n : Nat), RLs (RE σ w t) l cs → RLs (RE σ w t) (l.drop n) (cs.drop (n * t.sz))
 | [], cs, n, h => by rw [show cs = [] from h]; simp [RLs]
 | x :: l, cs, 0, h => by simpa using h
 | x :: l, cs, n + 1, ⟨a, b, e, g, k⟩ => by
  have e1 : a.drop ((n + 1) * t.sz) = [] := List.drop_eq_nil_of_le (by rw [g.len, Nat.add_mul]; omega)
  have e2 : (n + 1) * t.sz - t.sz = n * t.sz := by rw [Nat.add_mul, Nat.one_mul, Nat.add_sub_cancel]
  rw [e, List.drop_append, g.len, e1, List.nil_append, e2]
  exact RLs.drop' n k
theorem Cs.take {β off : Nat} {cs : List Value} (h : Cs σ w β off cs) (n : Nat) : Cs σ w β off (cs.take n) := fun j v hv => h j v (by
 rw [List.getElem?_take] at hv
 split at hv
 ·exact hv
 ·cases hv)
theorem Cs.drop {β off : Nat} {cs : List Value} (h : Cs σ w β off cs) (n : Nat) : Cs σ w β (off + n) (cs.drop n) := fun j v hv => by
 rw [List.getElem?_drop] at hv
 have := h _ _ hv
 rw [Nat.add_assoc]; exact this
theorem addr_add (β off n : Nat) : Addr.add ⟨β, off, none⟩ n = ⟨β, off + n, none⟩ := Addr.add_lit ..
theorem lsub_sound {t : Ty} {l z : List (El t)} {lo hi : Int} {A : Option Addr} {cap : Nat} (h : lsub l lo hi = some z) (hl : l.length ≤ cap) (g : l = [] ∨ ∃ β off cs, A = some ⟨β, off, none⟩ ∧ RLs (RE σ w t) l cs ∧ Cs σ w β off cs) :
  (0 ≤ lo ∧ lo ≤ hi ∧ hi ≤ (l.length : Int)) ∧ z = (l.take hi.toNat).drop lo.toNat ∧
  RA ρ base σ w (.sl none t z) (.slice (if cap = lo.toNat then A else A.map (·.add (lo.toNat * t.sz))) (hi.toNat - lo.toNat) (cap - lo.toNat)) := by
 unfold lsub at h
 split at h
 ·rename_i hc
  obtain rfl := Option.some.inj h
  refine ⟨hc, rfl, ?_, fun i e => by cases e⟩
  have hlen : ((l.take hi.toNat).drop lo.toNat).length = hi.toNat - lo.toNat := by rw [List.length_drop, List.length_take]; omega
  refine ⟨_, _, by rw [hlen], by rw [hlen]; omega, ?_⟩
  rcases g with e1 | ⟨β, off, cs, e1, e2, e3⟩
  ·subst e1
   exact .inl (by simp)
  ·subst e1
   have k1 := (e2.take' hi.toNat).drop' lo.toNat
   have k2 := (e3.take (hi.toNat * t.sz)).drop (lo.toNat * t.sz)
   by_cases hcap : cap = lo.toNat
   ·refine .inr ⟨β, off, [], by rw [if_pos hcap], ?_, fun j v hv => by simp at hv⟩
    have : (l.take hi.toNat).drop lo.toNat = [] := List.eq_nil_of_length_eq_zero (by rw [hlen]; omega)
    rw [this]; rfl
   ·exact .inr ⟨β, off + lo.toNat * t.sz, _, by rw [if_neg hcap]; simp [addr_add], k1, k2⟩
 ·cases h
theorem orInt_sound {d : Int} {x : Option AV} {vx : Option Value} {L : Int → Option R} (h : orInt d x L = some r) (hx : ∀ a, x = some a → ∃ v, vx = some v ∧ RA ρ base σ w a v) (hn : x = none → vx = none) :
  ∃ n, L n = some r ∧ ((vx = none ∧ n = d) ∨ ∃ k, vx = some (.int k n)) := by
 cases x with
 | none => exact ⟨d, h, .inl ⟨hn rfl, rfl⟩⟩
 | some a =>
  obtain ⟨v, hv, g⟩ := hx a rfl
  obtain ⟨k, n, e, hL⟩ := asInt_sound h g
  exact ⟨n, hL, .inr ⟨k, by rw [hv, e]⟩⟩
theorem bounds_run {isSlice : Bool} {len cap : Nat} {lo hi : Int} {vlo vhi : Option Value} (h0 : 0 ≤ lo) (h1 : lo ≤ hi) (h2 : hi ≤ (len : Int)) (h3 : len ≤ cap)
  (hl : (vlo = none ∧ lo = 0) ∨ ∃ k, vlo = some (.int k lo)) (hh : (vhi = none ∧ hi = (len : Int)) ∨ ∃ k, vhi = some (.int k hi)) :
  (Instr.sliceBounds isSlice len cap vlo vhi none).run P w = .ok (lo.toNat, hi.toNat, cap) w := by
 have hb : ∀ (k : IntKind) (i : Int) (y : Nat) (code : BoundsCode), 0 ≤ i → i ≤ (y : Int) → (Instr.sliceBound (.int k i) y code).run P w = .ok i.toNat w := fun k i y code a b => by
  simp [Instr.sliceBound, asIntOf, a, b]
 rcases hh with ⟨rfl, rfl⟩ | ⟨k, rfl⟩
 ·rcases hl with ⟨rfl, rfl⟩ | ⟨k', rfl⟩
  ·simp [Instr.sliceBounds]
  ·have := hb k' lo len .sliceB h0 (by omega)
   simp [Instr.sliceBounds, this]
 ·have e1 : ∀ code, (Instr.sliceBound (.int k hi) cap code).run P w = .ok hi.toNat w := fun code => hb k hi cap code (by omega) (by omega)
  rcases hl with ⟨rfl, rfl⟩ | ⟨k', rfl⟩
  ·simp [Instr.sliceBounds, e1]
  ·have e2 := hb k' lo hi.toNat .sliceB h0 (by omega)
   simp [Instr.sliceBounds, e1, e2]
theorem slice_yields {C : Ctx} (hT : TabOk P C.T) {t : TypeId} {x : Operand} {lo hi mx : Option Operand} {ρv : Operand → AV} {a : Act} (h : xa C ρv (.slice t x lo hi mx) K = some r)
  (hv : ∀ y ∈ (Op.slice t x lo hi mx).operands.toList, RA ρ base σ w (ρv y) (a.eval y)) : Yields P ρ base σ w K r (Instr.sliceAt t (a.eval x) (lo.map a.eval) (hi.map a.eval) (mx.map a.eval)) := by
 have gx := hv x (by simp [Op.operands])
 have glo : ∀ b, lo.map ρv = some b → ∃ v, lo.map a.eval = some v ∧ RA ρ base σ w b v := fun b e => by
  obtain ⟨y, hy, rfl⟩ := Option.map_eq_some_iff.1 e
  exact ⟨_, by rw [hy]; rfl, hv y (by simp [Op.operands, hy])⟩
 have ghi : ∀ b, hi.map ρv = some b → ∃ v, hi.map a.eval = some v ∧ RA ρ base σ w b v := fun b e => by
  obtain ⟨y, hy, rfl⟩ := Option.map_eq_some_iff.1 e
  exact ⟨_, by rw [hy]; rfl, hv y (by simp [Op.operands, hy])⟩
 cases mx with
 | some m => simp [xa] at h
 | none =>
  simp only [xa] at h
  split at h
  ·rename_i s hd hx
   rw [hx] at gx
   have ex : a.eval x = .string s := gx
   obtain ⟨i, z, kn⟩ := known (P := P) hT (t := t) (by rw [hd]; exact fun e => by cases e)
   have hu := und_str (kn.desc.trans hd)
   obtain ⟨nl, h1, hl⟩ := orInt_sound h glo (fun e => by cases lo <;> simp_all)
   obtain ⟨nh, h2, hh⟩ := orInt_sound h1 ghi (fun e => by cases hi <;> simp_all)
   obtain ⟨s', hs', hk⟩ := Option.bind_eq_some_iff.1 h2
   unfold ssub at hs'
   split at hs'
   ·rename_i hc
    obtain rfl := Option.some.inj hs'
    refine yields_of ?_ hk rfl
    have hb := bounds_run (P := P) (w := w) (isSlice := false) hc.1 hc.2.1 hc.2.2 (Nat.le_refl s.size) hl hh
    rw [ex]
    simp [Instr.sliceAt, Instr.slice, run_underlying hu, hb]
   ·cases hs'
  ·rename_i e o u l hd hx
   split at h
   ·rename_i hsz
    rw [hx] at gx
    obtain ⟨A, cap, ex, hlc, hrow⟩ := row_at gx.1
    obtain ⟨i, z, kn⟩ := known (P := P) hT (t := t) (by rw [hd]; exact fun e => by cases e)
    have hu := und_sl (kn.desc.trans hd)
    obtain ⟨nl, h1, hl⟩ := orInt_sound h glo (fun e => by cases lo <;> simp_all)
    obtain ⟨nh, h2, hh⟩ := orInt_sound h1 ghi (fun e => by cases hi <;> simp_all)
    obtain ⟨z', hz', hk⟩ := Option.bind_eq_some_iff.1 h2
    obtain ⟨hc, -, g⟩ := lsub_sound (ρ := ρ) (base := base) hz' hlc hrow
    have hb := bounds_run (P := P) (w := w) (isSlice := true) hc.1 hc.2.1 hc.2.2 hlc hl hh
    refine yields_of ?_ hk g
    rw [ex]
    obtain ⟨ie, ze, ke⟩ := known (P := P) hT (fun e => by rw [e] at hsz; cases hsz.1)
    have hs := ke.sizeOf w
    simp [Instr.sliceAt, Instr.slice, run_underlying hu, hb, hs, hsz.2]
   ·cases h
  ·rename_i e b sz off n hd hx
   split at h
   ·rename_i hsz
    rw [hx] at gx
    obtain ⟨A, cap, ex, hnc, hA⟩ := gx
    obtain ⟨i, z, kn⟩ := known (P := P) hT (t := t) (by rw [hd]; exact fun e => by cases e)
    have hu := und_sl (kn.desc.trans hd)
    obtain ⟨nl, h1, hl⟩ := orInt_sound h glo (fun e => by cases lo <;> simp_all)
    obtain ⟨nh, h2, hh⟩ := orInt_sound h1 ghi (fun e => by cases hi <;> simp_all)
    split at h2
    ·rename_i hc
     have hb := bounds_run (P := P) (w := w) (isSlice := true) hc.1 hc.2.1 hc.2.2 hnc hl hh
     obtain ⟨ie, ze, ke⟩ := known (P := P) hT (fun e => by rw [e] at hsz; cases hsz.1)
     have hs := ke.sizeOf w
     refine yields_of (v := .slice (if cap = nl.toNat then A else A.map (·.add (nl.toNat * (C.ti e).size))) (nh.toNat - nl.toNat) (cap - nl.toNat)) ?_ h2 ⟨_, _, rfl, by omega, ?_⟩
     ·rw [ex]
      simp [Instr.sliceAt, Instr.slice, run_underlying hu, hb, hs]
     ·rcases hA with ⟨rfl, rfl⟩ | ⟨β, o, rfl, hA⟩
      ·left
       refine ⟨by split <;> rfl, by omega⟩
      ·right
       by_cases hcap : cap = nl.toNat
       ·exact ⟨β, o, by rw [if_pos hcap], .inl (by omega)⟩
       ·refine ⟨β, o + nl.toNat * (C.ti e).size, by rw [if_neg hcap]; simp [addr_add], ?_⟩
        rcases hA with hA | ⟨hA1, hA2⟩
        ·left; omega
        ·right
         exact ⟨hA1, by rw [hA2, Nat.add_mul, hsz.2]⟩
    ·cases h2
   ·cases h
  ·rename_i n e b hd hx
   split at h
   ·split at h
    ·rename_i hc
     rw [hx] at gx
     obtain ⟨β, e1, e2⟩ := gx
     obtain ⟨i, z, kn⟩ := known (P := P) hT (t := t) (by rw [hd]; exact fun e => by cases e)
     have hu := und_arr (kn.desc.trans hd)
     obtain ⟨ie, ze, ke⟩ := known (P := P) hT (fun e => by rw [e] at hc; cases hc.1)
     have hs := ke.sizeOf w
     refine yields_of (v := .slice (some ⟨β, 0, none⟩) n n) ?_ h ⟨_, n, rfl, Nat.le_refl _, .inr ⟨β, 0, rfl, .inr ⟨e1, by simp⟩⟩⟩
     rw [e2]
     have hn0 : n ≠ 0 := by omega
     simp [Instr.sliceAt, Instr.sliceBounds, run_underlying hu, Instr.sureAddr, hs, hn0, addr_add]
    ·cases h
   ·cases h
  ·cases h
theorem addr_pos {C : Ctx} (hT : TabOk P C.T) {t : TypeId} (h : (C.ti t).d.known = true) : ∃ i z, Known P t (C.ti t) i z := known hT (fun e => by rw [e] at h; cases h)
theorem fieldAddr_yields {C : Ctx} (hT : TabOk P C.T) {t : TypeId} {x : Operand} {f : Nat} {ρv : Operand → AV} {a : Act} (h : xa C ρv (.fieldAddr t x f) K = some r) (gx : RA ρ base σ w (ρv x) (a.eval x)) :
  Yields P ρ base σ w K r (Instr.fieldAt t (a.eval x) f) := by
 simp only [xa] at h
 split at h
 ·rename_i fs hd
  obtain ⟨i, z, kn⟩ := known (P := P) hT (t := t) (by rw [hd]; exact fun e => by cases e)
  obtain ⟨F, hu, hF⟩ := und_st (kn.desc.trans hd)
  split at h
  ·rename_i q hq
   split at h
   ·cases h
   ·rename_i hc
    have hk : (C.ti q.1).d.known = true := by cases hh : (C.ti q.1).d.known <;> simp_all
    have hz : (C.ti q.1).size ≠ 0 := fun e => hc (.inr e)
    obtain ⟨i', z', kn'⟩ := addr_pos (P := P) hT hk
    have hs := kn'.sizeOf w
    rw [← hF, List.getElem?_map] at hq
    obtain ⟨fd, hfd, rfl⟩ := Option.map_eq_some_iff.1 hq
    rw [Array.getElem?_toList] at hfd
    have run : ∀ (β o : Nat), (Instr.fieldAt t (.pointer (some ⟨β, o, none⟩)) f).run P w = .ok (.pointer (some ⟨β, o + fd.offset, none⟩)) w := fun β o => by
     simp [Instr.fieldAt, run_underlying hu, hfd, Instr.sureAddr, fieldPlace, hs, hz, addr_add]
    split at h
    ·rename_i b j hx
     rw [hx] at gx
     obtain ⟨β, e1, e2⟩ := gx
     rw [e2]
     exact yields_of (run β j) h ⟨β, e1, rfl⟩
    ·rename_i u y j hx
     rw [hx] at gx
     obtain ⟨β, o, vs, e1, e2, e3⟩ := gx
     rw [e1]
     exact yields_of (run β _) h ⟨β, o, vs, by rw [Nat.add_assoc], e2, e3⟩
    ·cases h
  ·cases h
 ·cases h
theorem indexAddr_yields {C : Ctx} (hT : TabOk P C.T) {t : TypeId} {x i : Operand} {ρv : Operand → AV} {a : Act} (h : xa C ρv (.indexAddr t x i) K = some r) (gx : RA ρ base σ w (ρv x) (a.eval x)) (gi : RA ρ base σ w (ρv i) (a.eval i)) :
  Yields P ρ base σ w K r (Instr.indexAt t (a.eval x) (a.eval i)) := by
 simp only [xa] at h
 split at h
 ·rename_i n e b j hd hx
  split at h
  ·cases h
  ·rename_i hk
   have hk : (C.ti e).d.known = true := by cases hh : (C.ti e).d.known <;> simp_all
   obtain ⟨i1, z1, kn⟩ := known (P := P) hT (t := t) (by rw [hd]; exact fun e => by cases e)
   have hu := und_arr (kn.desc.trans hd)
   obtain ⟨i2, z2, ke⟩ := addr_pos (P := P) hT hk
   have hs := ke.sizeOf w
   obtain ⟨k, n', ei, h⟩ := asInt_sound h gi
   obtain ⟨m, em, -, hm, h⟩ := pickAt_sound h
   rw [hx] at gx
   obtain ⟨β, e1, e2⟩ := gx
   rw [e2, ei, em]
   have hlt : (m : Int) < (n : Int) := by omega
   exact yields_of (v := .pointer (some ⟨β, j + m * (C.ti e).size, none⟩)) (by simp [Instr.indexAt, run_underlying hu, asIntOf, Instr.sureAddr, hs, hlt, addr_add]; omega) h ⟨β, e1, rfl⟩
 ·rename_i n e u y j hd hx
  split at h
  ·cases h
  ·rename_i hk
   have hk : (C.ti e).d.known = true := by cases hh : (C.ti e).d.known <;> simp_all
   obtain ⟨i1, z1, kn⟩ := known (P := P) hT (t := t) (by rw [hd]; exact fun e => by cases e)
   have hu := und_arr (kn.desc.trans hd)
   obtain ⟨i2, z2, ke⟩ := addr_pos (P := P) hT hk
   have hs := ke.sizeOf w
   obtain ⟨k, n', ei, h⟩ := asInt_sound h gi
   obtain ⟨m, em, -, hm, h⟩ := pickAt_sound h
   rw [hx] at gx
   obtain ⟨β, o, vs, e1, e2, e3⟩ := gx
   rw [e1, ei, em]
   have hlt : (m : Int) < (n : Int) := by omega
   exact yields_of (v := .pointer (some ⟨β, o + j + m * (C.ti e).size, none⟩)) (by simp [Instr.indexAt, run_underlying hu, asIntOf, Instr.sureAddr, hs, hlt, addr_add]; omega) h ⟨β, o, vs, by rw [Nat.add_assoc], e2, e3⟩
 ·rename_i e o u l hd hx
  split at h
  ·rename_i hc
   obtain ⟨i1, z1, kn⟩ := known (P := P) hT (t := t) (by rw [hd]; exact fun e => by cases e)
   have hu := und_sl (kn.desc.trans hd)
   obtain ⟨i2, z2, ke⟩ := addr_pos (P := P) hT hc.1
   have hs := ke.sizeOf w
   obtain ⟨k, n', ei, h⟩ := asInt_sound h gi
   obtain ⟨y, hy, h⟩ := Option.bind_eq_some_iff.1 h
   unfold lget at hy
   split at hy
   ·rename_i h0
    rw [hx] at gx
    obtain ⟨A, cap, ex, hlc, hrow⟩ := row_at gx.1
    have hlt : n'.toNat < l.length := (List.getElem?_eq_some_iff.1 hy).1
    rcases hrow with rfl | ⟨β, off, cs, rfl, h2, h3⟩
    ·simp at hlt
    ·obtain ⟨pa, pu, pb, e1, e2, e3⟩ := h2.get hy
     rw [e1] at h3
     have h4 := h3.part
     rw [ex, ei]
     refine yields_of (v := .pointer (some ⟨β, off + n'.toNat * (C.ti e).size, none⟩)) ?_ h ⟨β, off + pa.length, pu, by rw [e2, hc.2]; rfl, e3, h4⟩
     have : n' < (l.length : Int) := by omega
     simp [Instr.indexAt, run_underlying hu, asIntOf, hs, h0, this, addr_add]
   ·cases hy
  ·cases h
 ·rename_i e b sz off n hd hx
  split at h
  ·rename_i hc
   obtain ⟨i1, z1, kn⟩ := known (P := P) hT (t := t) (by rw [hd]; exact fun e => by cases e)
   have hu := und_sl (kn.desc.trans hd)
   obtain ⟨i2, z2, ke⟩ := addr_pos (P := P) hT hc.1
   have hs := ke.sizeOf w
   obtain ⟨k, n', ei, h⟩ := asInt_sound h gi
   split at h
   ·rename_i h0
    rw [hx] at gx
    obtain ⟨A, cap, ex, hlc, hA⟩ := gx
    have hnn : n ≠ 0 := by omega
    rcases hA with ⟨rfl, e0⟩ | ⟨β, o, rfl, hA⟩
    ·exact absurd e0 hnn
    ·obtain ⟨q1, q2⟩ := hA.resolve_left hnn
     rw [ex, ei]
     refine yields_of (v := .pointer (some ⟨β, o + n'.toNat * (C.ti e).size, none⟩)) ?_ h ⟨β, q1, by rw [q2, Nat.add_mul, hc.2]⟩
     simp [Instr.indexAt, run_underlying hu, asIntOf, hs, h0.1, h0.2, addr_add]
   ·cases h
  ·cases h
 ·cases h
theorem index_yields {C : Ctx} (hT : TabOk P C.T) {t : TypeId} {x i : Operand} {ρv : Operand → AV} {a : Act} (h : xa C ρv (.index t x i) K = some r) (gx : RA ρ base σ w (ρv x) (a.eval x)) (gi : RA ρ base σ w (ρv i) (a.eval i)) :
  Yields P ρ base σ w K r (Instr.index t (a.eval x) (a.eval i)) := by
 simp only [xa] at h
 split at h
 ·rename_i n e cs hd hx
  obtain ⟨i1, z1, kn⟩ := known (P := P) hT (t := t) (by rw [hd]; exact fun e => by cases e)
  have hu := und_arr (kn.desc.trans hd)
  obtain ⟨k, n', ei, h⟩ := asInt_sound h gi
  obtain ⟨m, em, -, hm, h⟩ := pickAt_sound h
  rw [hx] at gx
  obtain ⟨vs, ex, gx⟩ := gx
  have hne : (C.ti e).d ≠ .other := fun e => by unfold partOf at h; rw [e] at h; cases h
  obtain ⟨i2, z2, ke⟩ := known (P := P) hT hne
  have hs := ke.sizeOf w
  obtain ⟨av, v, h1, h2, h3⟩ := partOf_sound hT h gx
  have hlt : (m : Int) < (n : Int) := by omega
  refine ⟨av, v, ?_, h2, h3⟩
  rw [ex, ei, em]
  simp [Instr.index, run_underlying hu, asIntOf, hs, hlt, h1]
  intro hh; omega
 ·rename_i s hd hx
  obtain ⟨i1, z1, kn⟩ := known (P := P) hT (t := t) (by rw [hd]; exact fun e => by cases e)
  have hu := und_str (kn.desc.trans hd)
  obtain ⟨k, n', ei, h⟩ := asInt_sound h gi
  obtain ⟨b, hb, h⟩ := Option.bind_eq_some_iff.1 h
  rw [hx] at gx
  have ex : a.eval x = .string s := gx
  unfold bget at hb
  rw [ex, ei]
  refine yields_of (v := .int .u8 b.toNat) ?_ h rfl
  simp [Instr.index, run_underlying hu, asIntOf, hb]
 ·cases h
variable {P : Program} {R : Type} {ρ : Env} {base : Nat} {σ : Nat → Nat → Prop} {w : World} {r : R} {K : AV → Option R}
theorem RLs.ints {k : IntKind} : ∀ {l : List Int} {cs : List Value}, RLs (RE σ w (.int k)) l cs → cs = l.map (Value.int k)
 | [], _, h => h
 | n :: l, _, ⟨a, b, e, g, k'⟩ => by rw [e, show a = _ from g, RLs.ints k']; rfl
theorem convert_yields {C : Ctx} (hT : TabOk P C.T) {src dst : TypeId} {x : Operand} {ρv : Operand → AV} {a : Act} (h : xa C ρv (.convert src dst x) K = some r) (gx : RA ρ base σ w (ρv x) (a.eval x)) :
  Yields P ρ base σ w K r (convert src dst (a.eval x)) := by
 simp only [xa] at h
 split at h
 ·cases h
 ·rename_i hk
  have hk : (C.ti src).d.known = true := by cases hh : (C.ti src).d.known <;> simp_all
  obtain ⟨i1, z1, ks⟩ := addr_pos (P := P) hT hk
  have hsrc : ∃ u, P.underlying src = some u := by
   cases hu : P.underlying src with
   | none => have := ks.desc; rw [hu] at this; rw [← this] at hk; cases hk
   | some u => exact ⟨u, rfl⟩
  obtain ⟨us, hus⟩ := hsrc
  split at h
  ·rename_i k k' n hd hx
   obtain ⟨i2, z2, kd⟩ := known (P := P) hT (t := dst) (by rw [hd]; exact fun e => by cases e)
   have hu := und_int (kd.desc.trans hd)
   rw [hx] at gx
   rw [show a.eval x = _ from gx]
   refine yields_of (v := .int k (k.wrap n)) ?_ h rfl
   simp [convert, run_underlying hus, run_underlying hu, Conv.intToInt]
  ·rename_i s hd hx
   obtain ⟨i2, z2, kd⟩ := known (P := P) hT (t := dst) (by rw [hd]; exact fun e => by cases e)
   have hu := und_str (kd.desc.trans hd)
   rw [hx] at gx
   rw [show a.eval x = _ from gx]
   refine yields_of (v := .string s) ?_ h rfl
   simp [convert, run_underlying hus, run_underlying hu]
  ·rename_i o l hd hx
   obtain ⟨i2, z2, kd⟩ := known (P := P) hT (t := dst) (by rw [hd]; exact fun e => by cases e)
   have hu := und_str (kd.desc.trans hd)
   split at h
   ·rename_i e hds
    split at h
    ·rename_i hde
     obtain ⟨i3, z3, ke⟩ := known (P := P) hT (t := e) (by rw [hde]; exact fun e => by cases e)
     have hue := und_int (ke.desc.trans hde)
     have hus' := und_sl (ks.desc.trans hds)
     rw [hx] at gx
     obtain ⟨A, cap, ex, hlc, hrow⟩ := row_at gx.1
     rw [ex]
     rcases hrow with rfl | ⟨β, off, cs, rfl, h2, h3⟩
     ·refine yields_of (v := .string .empty) ?_ h rfl
      cases A with
      | none => simp [convert, run_underlying hus', run_underlying hu, run_underlying hue, Conv.bytesToString]
      | some A =>
       have hb := run_bytesToString (P := P) w A 0 cap [] (by simp [loadCells, loadCellsFrom])
       simp [convert, run_underlying hus', run_underlying hu, run_underlying hue, hb]
     ·have hcs := RLs.ints h2
      have hl : (loadCells ⟨β, off, none⟩ l.length).run P w = .ok (l.map (Value.int .u8)).toArray w := by
       have := run_loadCells_list (P := P) w ⟨β, off, none⟩ cs (fun j v hv => by rw [addr_add]; exact (h3 j v hv).2)
       rw [hcs] at this
       simpa using this
      have hb := run_bytesToString w ⟨β, off, none⟩ l.length cap l hl
      refine yields_of (v := .string (bytesOf l)) ?_ h rfl
      have hfold : l.foldl (fun r n => r.push (UInt8.ofNat n.toNat)) ByteArray.empty = bytesOf l := by
       rw [foldl_push_bytes]; unfold bytesOf; congr 1; show #[] ++ _ = _; simp
      rw [hfold] at hb
      simp [convert, run_underlying hus', run_underlying hu, run_underlying hue, hb]
    ·cases h
   ·cases h
  ·cases h
theorem unop_yields {C : Ctx} {op : UnOp} {t : TypeId} {x : Operand} {ρv : Operand → AV} {a : Act} (h : xa C ρv (.unOp op t x) K = some r) (gx : RA ρ base σ w (ρv x) (a.eval x)) : Yields P ρ base σ w K r (Op.unary op (a.eval x)) := by
 simp only [xa] at h
 split at h
 ·rename_i k n hx
  rw [hx] at gx; rw [show a.eval x = _ from gx]
  exact yields_of rfl h rfl
 ·rename_i k n hx
  rw [hx] at gx; rw [show a.eval x = _ from gx]
  exact yields_of (v := .int k (Go.bits .xor k (if k.signed then -1 else k.max) n)) rfl h rfl
 ·rename_i p d hx
  rw [hx] at gx; rw [show a.eval x = _ from gx]
  exact yields_of (v := .bool (!(@decide p d))) rfl h (by show Value.bool _ = Value.bool _; by_cases e : p <;> simp [e])
 ·cases h
theorem build_yields {C : Ctx} (hT : TabOk P C.T) {t : TypeId} {parts : Array (Nat × Operand)} {ρv : Operand → AV} {a : Act} (h : xa C ρv (.build t parts) K = some r) (hv : ∀ q ∈ parts.toList, RA ρ base σ w (ρv q.2) (a.eval q.2)) :
  Yields P ρ base σ w K r (Instr.build t (parts.map fun (i, x) => (i, a.eval x))) := by
 have hp : ∀ (j : Nat) i av, (parts.toList.map fun p => (p.1, ρv p.2))[j]? = some (i, av) → ∃ v, (parts.map fun (i, x) => (i, a.eval x)).toList[j]? = some (i, v) ∧ RA ρ base σ w av v := fun j i av hj => by
  rw [List.getElem?_map] at hj
  obtain ⟨q, hq, hqe⟩ := Option.map_eq_some_iff.1 hj
  simp only [Prod.mk.injEq] at hqe
  obtain ⟨rfl, rfl⟩ := hqe
  exact ⟨a.eval q.2, by rw [Array.toList_map, List.getElem?_map, hq]; rfl, hv q (List.mem_of_getElem? hq)⟩
 have hl : (parts.map fun (i, x) => (i, a.eval x)).toList.length = (parts.toList.map fun p => (p.1, ρv p.2)).length := by simp
 simp only [xa] at h
 split at h
 ·rename_i fs hd
  obtain ⟨i, z, kn⟩ := known (P := P) hT (t := t) (by rw [hd]; exact fun e => by cases e)
  obtain ⟨F, hu, hF⟩ := und_st (kn.desc.trans hd)
  have hz := kn.zeroValue w
  split at h
  ·rename_i cs hcs
   split at h
   ·rename_i hall
    rw [kn.cells] at hcs
    have hplace : ∀ f ∈ F.toList, (Go.sizeOf f.type).run P w = .ok (C.ti f.type).size w := fun f hf => by
     have : (C.ti f.type).d.known = true := by
      rw [← hF] at hall
      simpa using List.all_eq_true.1 hall (f.type, f.offset) (List.mem_map.2 ⟨f, hf, rfl⟩)
     obtain ⟨i', z', k'⟩ := addr_pos (P := P) hT this
     exact k'.sizeOf w
    have hmap : (F.mapM fun f => (do pure (f.offset, ← Go.sizeOf f.type) : Sem (Nat × Nat))).run P w = .ok (F.map fun f => (f.offset, (C.ti f.type).size)) w := by
     rw [Array.mapM_eq_mapM_toList]
     have : ∀ l : List Field, (∀ f ∈ l, (Go.sizeOf f.type).run P w = .ok (C.ti f.type).size w) → ((l.mapM fun f => (do pure (f.offset, ← Go.sizeOf f.type) : Sem (Nat × Nat))) : Sem _).run P w = .ok (l.map fun f => (f.offset, (C.ti f.type).size)) w := by
      intro l
      induction l with
      | nil => intro _; simp
      | cons f l ih =>
       intro hl
       have e1 := hl f (List.mem_cons_self ..)
       have e2 := ih fun g hg => hl g (List.mem_cons_of_mem _ hg)
       rw [List.mapM_cons]
       simp only [Sem.run_bind, e1, Result.andThen_ok, e2, Sem.run_pure, List.map_cons]
     have e3 := this F.toList hplace
     simp only [Sem.run_map, e3, Result.andThen_ok]
     congr 1
     apply Array.ext'
     simp
    obtain ⟨vo, f1, f2⟩ := fill_sound (place := fun i => (F.map fun f => (f.offset, (C.ti f.type).size))[i]?) (by
     rw [← hcs]; congr 1; funext i
     rw [← hF, List.getElem?_map, Array.getElem?_map, ← Array.getElem?_toList]
     cases F.toList[i]? <;> rfl) (RAs.ofLeaf _) hl hp
    refine yields_of (v := .agg vo) ?_ h ⟨vo, rfl, f2⟩
    simp only [Instr.build, Sem.run_bind, hz, Result.andThen_ok, run_underlying hu, hmap, f1, Sem.run_pure]
   ·cases h
  ·cases h
 ·rename_i n e hd
  obtain ⟨i, z, kn⟩ := known (P := P) hT (t := t) (by rw [hd]; exact fun e => by cases e)
  have hu := und_arr (kn.desc.trans hd)
  have hz := kn.zeroValue w
  split at h
  ·rename_i cs hcs
   split at h
   ·rename_i hk
    obtain ⟨i', z', ke⟩ := addr_pos (P := P) hT hk
    have hs := ke.sizeOf w
    rw [kn.cells] at hcs
    obtain ⟨vo, f1, f2⟩ := fill_sound hcs (RAs.ofLeaf _) hl hp
    refine yields_of (v := .agg vo) ?_ h ⟨vo, rfl, f2⟩
    simp only [Instr.build, Sem.run_bind, hz, Result.andThen_ok, run_underlying hu, hs, f1, Sem.run_pure]
   ·cases h
  ·cases h
 ·cases h
theorem builtSlice_wp {C : Ctx} (hT : TabOk P C.T) {o : Oper} {t : TypeId} {n : Nat} {parts : Array (Nat × Operand)} {ρv : Operand → AV} {a : Act} {Q : Exit → Act → World → Prop} (ho : o.op = .buildSlice t n parts)
  (h : built C ρv t n parts.toList (fun u l => if n = 0 then K (.emp u) else K (.sl none u l)) = some r) (hv : ∀ q ∈ parts.toList, RA ρ base σ w (ρv q.2) (a.eval q.2)) (hσ : Fits σ w) : o.wp P a w (Out ρ base σ w K r o a) Q := by
 obtain ⟨u, l, vs, e, hk, hr, h1, h2, h3, h4⟩ := built_sound hT h hv
 obtain ⟨g1, g2⟩ := grow_alloc hσ vs e vs.size (Nat.le_refl _)
 obtain ⟨av, hk, hav⟩ : ∃ av, K av = some r ∧ RA ρ base (fun b o => σ b o ∨ (b = w.heap.size ∧ o < vs.size)) (w.alloc (.cells vs e)) av (.slice (some ⟨w.heap.size, 0, none⟩) n n) := by
  split at hk
  ·rename_i hn
   subst hn
   exact ⟨_, hk, _, rfl, .inr ⟨_, _, rfl⟩⟩
  ·refine ⟨_, hk, ?_, fun i e => by cases e⟩
   subst h2
   refine ⟨_, _, rfl, Nat.le_refl _, .inr ⟨w.heap.size, 0, vs.toList, rfl, RLs.mono (fun _ _ => RE.mono (g1.keeps hσ)) h1, ?_⟩⟩
   rw [List.take_of_length_le (by simp)] at g2
   exact g2
 refine out_run (v := .slice (some ⟨w.heap.size, 0, none⟩) n n) (w' := w.alloc (.cells vs e)) ?_ hk hav g1
 ·have he : execOp a.eval o = (do pure (.value (← Instr.buildSlice t n (parts.map fun (i, x) => (i, a.eval x))))) := by simp only [execOp, ho]
  have hp : (parts.toList.map fun q => (q.1, a.eval q.2)).toArray = parts.map fun (i, x) => (i, a.eval x) := by apply Array.ext'; simp
  rw [he, ← hp]
  simp [hr]
theorem call_wp {C : Ctx} (hG : ∀ c ∈ C.G, ConOk P c) {o : Oper} {c : Call} {f : Operand} {g : FuncId} {caps : List AV} {ρv : Operand → AV} {a : Act} {Q : Exit → Act → World → Prop} (ho : o.op = .call c) (hc : c.callee = .value f)
  (hf : ρv f = .fn g caps) (h : callOf C g (c.args.toList.map ρv ++ caps) K = some r) (hv : ∀ x ∈ o.op.operands.toList, RA ρ base σ w (ρv x) (a.eval x)) (hσ : Fits σ w) : o.wp P a w (Out ρ base σ w K r o a) Q := by
 have gf := hv f (by rw [ho]; simp [Op.operands, Call.operands, hc])
 rw [hf] at gf
 obtain ⟨vs, ef, gc⟩ := gf
 have ga : RAs ρ base σ w (c.args.toList.map ρv) (c.args.toList.map a.eval) := maps_ra fun x hx => hv x (by rw [ho]; simp [Op.operands, Call.operands, hx])
 obtain ⟨h1, h2⟩ := callOf_sound hG h (ga.append gc) hσ
 unfold Oper.wp
 have hrun : (execOp a.eval o).run P w = .ok (.enter g (c.args.toList.map a.eval ++ vs.toList).toArray) w := by
  have hargs : (c.args.toList.map a.eval ++ vs.toList).toArray = c.args.map a.eval ++ vs := by apply Array.ext'; simp
  rw [hargs] at h1 ⊢
  simp [execOp, ho, resolve, hc, ef, Deferred.ofValue, invoke, h1]
 rw [hrun, Oper.upon_enter]
 exact h2.mono fun e w' ⟨v, σ', av, e1, e2, e3, e4⟩ => by subst e1; exact ⟨av, v, σ', e2, rfl, e3, e4⟩
theorem len_yields {C : Ctx} (hT : TabOk P C.T) {t ty : TypeId} {v : AV} {u : Value} {n : Nat} (hn : lenOf (C.ti t).d v = some n) (h : K (.int .i64 n) = some r) (g : RA ρ base σ w v u) :
  Yields P ρ base σ w K r (Builtin.len_ #[t] ty #[u]) := by
 cases hd : (C.ti t).d <;> rw [hd] at hn <;> try (cases v <;> simp [lenOf] at hn; done)
 case str =>
  obtain ⟨i, z, kn⟩ := known (P := P) hT (t := t) (by rw [hd]; exact fun e => by cases e)
  have hu := und_str (kn.desc.trans hd)
  cases v <;> simp only [lenOf] at hn <;> cases hn
  rw [show u = _ from g]
  exact yields_of (v := .int .i64 _) (by simp [Builtin.len_, run_underlying hu, goInt]) h rfl
 case sl e =>
  obtain ⟨i, z, kn⟩ := known (P := P) hT (t := t) (by rw [hd]; exact fun e => by cases e)
  have hu := und_sl (kn.desc.trans hd)
  cases v <;> simp only [lenOf] at hn <;> cases hn
  ·obtain ⟨A, c, e, _⟩ := row_at g.1
   rw [e]
   exact yields_of (v := .int .i64 _) (by simp [Builtin.len_, run_underlying hu, goInt]) h rfl
  ·rw [show u = _ from g]
   exact yields_of (v := .int .i64 0) (by simp [Builtin.len_, run_underlying hu, goInt]) h rfl
  ·obtain ⟨A, c, e, _⟩ := g
   rw [e]
   exact yields_of (v := .int .i64 _) (by simp [Builtin.len_, run_underlying hu, goInt]) h rfl
  ·obtain ⟨A, e, _⟩ := g
   rw [e]
   exact yields_of (v := .int .i64 0) (by simp [Builtin.len_, run_underlying hu, goInt]) h rfl
 case arr m e =>
  obtain ⟨i, z, kn⟩ := known (P := P) hT (t := t) (by rw [hd]; exact fun e => by cases e)
  have hu := und_arr (kn.desc.trans hd)
  have : m = n := by cases v <;> simpa [lenOf] using hn
  subst this
  exact yields_of (v := .int .i64 m) (by simp [Builtin.len_, run_underlying hu, goInt]) h rfl
theorem xa_sound {C : Ctx} (hT : TabOk P C.T) (hG : ∀ c ∈ C.G, ConOk P c) {ρv : Operand → AV} {a : Act} {o : Oper} {Q : Exit → Act → World → Prop} (hσ : Fits σ w)
  (hv : ∀ x ∈ o.op.operands.toList, RA ρ base σ w (ρv x) (a.eval x)) (h : xa C ρv o.op K = some r) : o.wp P a w (Out ρ base σ w K r o a) Q := by
 cases ho : o.op with
 | move x => rw [ho] at h hv; exact out_run (v := a.eval x) (by simp [execOp, ho]) h (hv x (by simp [Op.operands])) (Grow.refl hσ)
 | assign x => rw [ho] at h hv; exact out_run (v := a.eval x) (by simp [execOp, ho]) h (hv x (by simp [Op.operands])) (Grow.refl hσ)
 | pick c x y =>
  rw [ho] at h hv
  simp only [xa] at h
  split at h
  ·rename_i p d hc
   have gc := hv c (by simp [Op.operands])
   rw [hc] at gc
   have ec : a.eval c = .bool (@decide p d) := gc
   split at h
   ·rename_i hp
    exact out_run (v := a.eval x) (by simp [execOp, ho, ec, asBool, hp]) h (hv x (by simp [Op.operands])) (Grow.refl hσ)
   ·rename_i hp
    exact out_run (v := a.eval y) (by simp [execOp, ho, ec, asBool, hp]) h (hv y (by simp [Op.operands])) (Grow.refl hσ)
  ·cases h
 | build t parts =>
  rw [ho] at h hv
  exact out_yields (by simp only [execOp, ho]) (build_yields hT h fun q hq => hv q.2 (by simp only [Op.operands]; exact List.mem_map.2 ⟨q, hq, rfl⟩)) hσ
 | buildSlice t n parts =>
  rw [ho] at h hv
  exact builtSlice_wp hT ho h (fun q hq => hv q.2 (by simp only [Op.operands]; exact List.mem_map.2 ⟨q, hq, rfl⟩)) hσ
 | nilCheck x =>
  rw [ho] at h hv
  have gx := hv x (by simp [Op.operands])
  simp only [xa] at h
  split at h
  ·rename_i b i hx
   rw [hx] at gx
   obtain ⟨β, e1, e2⟩ := gx
   exact out_run (v := a.eval x) (by simp [execOp, ho, e2]) h ⟨β, e1, e2⟩ (Grow.refl hσ)
  ·rename_i t y i hx
   rw [hx] at gx
   obtain ⟨β, o', vs, e1, e2⟩ := gx
   exact out_run (v := a.eval x) (by simp [execOp, ho, e1]) h ⟨β, o', vs, e1, e2⟩ (Grow.refl hσ)
  ·cases h
 | binOp op xt x y yt =>
  rw [ho] at h hv
  exact out_yields (by simp only [execOp, ho]) (binop_yields hT h (hv x (by simp [Op.operands])) (hv y (by simp [Op.operands]))) hσ
 | unOp op t x => rw [ho] at h hv; exact out_yields (by simp only [execOp, ho]) (unop_yields h (hv x (by simp [Op.operands]))) hσ
 | convert s d x => rw [ho] at h hv; exact out_yields (by simp only [execOp, ho]) (convert_yields hT h (hv x (by simp [Op.operands]))) hσ
 | slice t x lo hi mx => rw [ho] at h hv; exact out_yields (by simp only [execOp, ho]) (slice_yields hT h hv) hσ
 | fieldAddr t x f => rw [ho] at h hv; exact out_yields (by simp only [execOp, ho]) (fieldAddr_yields hT h (hv x (by simp [Op.operands]))) hσ
 | field t x f =>
  rw [ho] at h hv
  have gx := hv x (by simp [Op.operands])
  simp only [xa] at h
  split at h
  ·rename_i fs cs hd hx
   split at h
   ·rename_i q hq
    rw [hx] at gx
    obtain ⟨vs, ex, gx⟩ := gx
    obtain ⟨i, z, kn⟩ := known (P := P) hT (t := t) (by rw [hd]; exact fun e => by cases e)
    obtain ⟨F, hu, hF⟩ := und_st (kn.desc.trans hd)
    rw [← hF, List.getElem?_map] at hq
    obtain ⟨fd, hfd, rfl⟩ := Option.map_eq_some_iff.1 hq
    rw [Array.getElem?_toList] at hfd
    obtain ⟨av, v, h1, h2, h3⟩ := partOf_sound hT h gx
    refine out_yields (s := Instr.field t (a.eval x) f) (by simp only [execOp, ho]) ⟨av, v, ?_, h2, h3⟩ hσ
    rw [ex]
    simp [Instr.field, run_underlying hu, hfd, asAgg, h1]
   ·cases h
  ·cases h
 | indexAddr t x i => rw [ho] at h hv; exact out_yields (by simp only [execOp, ho]) (indexAddr_yields hT h (hv x (by simp [Op.operands])) (hv i (by simp [Op.operands]))) hσ
 | index t x i => rw [ho] at h hv; exact out_yields (by simp only [execOp, ho]) (index_yields hT h (hv x (by simp [Op.operands])) (hv i (by simp [Op.operands]))) hσ
 | extract x i =>
  rw [ho] at h hv
  have gx := hv x (by simp [Op.operands])
  simp only [xa] at h
  split at h
  ·rename_i vs hx
   split at h
   ·rename_i v hi
    rw [hx] at gx
    obtain ⟨us, ex, gx⟩ := gx
    obtain ⟨u, hu, g⟩ := gx.get hi
    rw [Array.getElem?_toList] at hu
    refine out_yields (s := Instr.extract (a.eval x) i) (by simp only [execOp, ho]) (yields_of (v := u) ?_ h g) hσ
    rw [ex]
    simp [Instr.extract, hu]
   ·cases h
  ·cases h
 | makeFunc fn first caps =>
  rw [ho] at h hv
  cases fn with
  | func f =>
   simp only [xa] at h
   split at h
   ·rename_i hf
    obtain rfl : first = #[] := Array.eq_empty_of_size_eq_zero hf
    refine out_yields (s := Instr.makeFunc (.func f) ((#[] : Array Operand).map a.eval) (caps.map a.eval)) (by simp only [execOp, ho]) (yields_of (v := .func (.func f) #[] (caps.map a.eval)) (by simp [Instr.makeFunc]) h ⟨_, rfl, ?_⟩) hσ
    rw [Array.toList_map]
    exact maps_ra fun x hx => hv x (by simp only [Op.operands]; simpa using hx)
   ·cases h
  | _ => simp [xa] at h
 | call c =>
  rw [ho] at h
  simp only [xa] at h
  split at h
  ·rename_i f hc
   split at h
   ·rename_i g caps hf
    exact call_wp hG ho hc hf h hv hσ
   ·cases h
  ·rename_i hc
   split at h
   ·rename_i v t ha ht
    split at h
    ·rename_i n hn
     obtain ⟨x, hx⟩ : ∃ x, c.args = #[x] := by
      have hl : c.args.toList.length = 1 := by have := congrArg List.length ha; simpa using this
      obtain ⟨x, hx⟩ := List.length_eq_one_iff.1 hl
      exact ⟨x, by apply Array.ext'; simpa using hx⟩
     rw [hx] at ha
     simp only [List.map_cons, List.map_nil, List.cons.injEq, and_true] at ha
     have gx := hv x (by rw [ho]; simp [Op.operands, Call.operands, hc, hx])
     rw [ha] at gx
     have ht' : c.argTypes = #[t] := by apply Array.ext'; simpa using ht
     obtain ⟨av, u, h1, h2, h3⟩ := len_yields (ty := o.type) hT hn h gx
     refine out_run (v := u) ?_ h2 h3 (Grow.refl hσ)
     simp [execOp, ho, resolve, hc, hx, invoke, builtin, ht', h1]
    ·cases h
   ·cases h
  ·rename_i hc
   split at h
   ·rename_i k m l n ha
    split at h
    ·rename_i hk
     subst hk
     obtain ⟨x, y, hx⟩ : ∃ x y, c.args = #[x, y] := by
      have hl : c.args.toList.length = 2 := by have := congrArg List.length ha; simpa using this
      cases hL : c.args.toList with
      | nil => rw [hL] at hl; simp at hl
      | cons x l =>
      cases l with
      | nil => rw [hL] at hl; simp at hl
      | cons y l =>
      cases l with
      | cons _ _ => rw [hL] at hl; simp at hl
      | nil => exact ⟨x, y, by apply Array.ext'; simpa using hL⟩
     rw [hx] at ha
     simp only [List.map_cons, List.map_nil, List.cons.injEq, and_true] at ha
     have gx := hv x (by rw [ho]; simp [Op.operands, Call.operands, hc, hx])
     have gy := hv y (by rw [ho]; simp [Op.operands, Call.operands, hc, hx])
     rw [ha.1] at gx
     rw [ha.2] at gy
     have ex : a.eval x = .int k m := gx
     have ey : a.eval y = .int k n := gy
     split at h
     ·rename_i hlt
      exact out_run (v := .int k n) (by simp [execOp, ho, resolve, hc, hx, invoke, builtin, Builtin.min_, Builtin.min2, ex, ey, hlt]) h rfl (Grow.refl hσ)
     ·rename_i hlt
      exact out_run (v := .int k m) (by simp [execOp, ho, resolve, hc, hx, invoke, builtin, Builtin.min_, Builtin.min2, ex, ey, hlt]) h rfl (Grow.refl hσ)
    ·cases h
   ·cases h
  ·rename_i hc
   split at h
   ·rename_i k m l n ha
    split at h
    ·rename_i hk
     subst hk
     obtain ⟨x, y, hx⟩ : ∃ x y, c.args = #[x, y] := by
      have hl : c.args.toList.length = 2 := by have := congrArg List.length ha; simpa using this
      cases hL : c.args.toList with
      | nil => rw [hL] at hl; simp at hl
      | cons x l =>
      cases l with
      | nil => rw [hL] at hl; simp at hl
      | cons y l =>
      cases l with
      | cons _ _ => rw [hL] at hl; simp at hl
      | nil => exact ⟨x, y, by apply Array.ext'; simpa using hL⟩
     rw [hx] at ha
     simp only [List.map_cons, List.map_nil, List.cons.injEq, and_true] at ha
     have gx := hv x (by rw [ho]; simp [Op.operands, Call.operands, hc, hx])
     have gy := hv y (by rw [ho]; simp [Op.operands, Call.operands, hc, hx])
     rw [ha.1] at gx
     rw [ha.2] at gy
     have ex : a.eval x = .int k m := gx
     have ey : a.eval y = .int k n := gy
     split at h
     ·rename_i hlt
      exact out_run (v := .int k n) (by simp [execOp, ho, resolve, hc, hx, invoke, builtin, Builtin.max_, Builtin.max2, ex, ey, hlt]) h rfl (Grow.refl hσ)
     ·rename_i hlt
      exact out_run (v := .int k m) (by simp [execOp, ho, resolve, hc, hx, invoke, builtin, Builtin.max_, Builtin.max2, ex, ey, hlt]) h rfl (Grow.refl hσ)
    ·cases h
   ·cases h
  ·cases h
 | _ => rw [ho] at h; simp [xa] at h
end Go.Proofs.YtkaihbkfobiejaaGreatDoor.Xe
