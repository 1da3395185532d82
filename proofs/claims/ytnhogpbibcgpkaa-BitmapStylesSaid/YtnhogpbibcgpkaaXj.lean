/- The executor: all operations that read their operands alone, together. -/
import Derived.Test.YtnhogpbibcgpkaaXi
namespace Go.Proofs.Ytnhogpbibcgpkaa.Xe
open Go Go.RowKit
set_option linter.unusedVariables false
set_option linter.unusedSimpArgs false
variable {P : Program} {R : Type} {ρ : Env} {base : Nat} {σ : Nat → Nat → Prop} {w : World} {r : R} {K : AV → Option R}
theorem RLs.ints {k : IntKind} : ∀ {l : List Int} {cs : List Value}, RLs (RE σ w (.int k)) l cs → cs = l.map (Value.int k)
  | [], _, h => h
  | n :: l, _, ⟨a, b, e, g, k'⟩ => by rw [e, show a = _ from g, RLs.ints k']; rfl
theorem convert_yields {C : Ctx} (hT : TabOk P C.T) {src dst : TypeId} {x : Operand} {ρv : Operand → AV} {a : Act} (h : xa C ρv (.convert src dst x) K = some r) (gx : RA ρ base σ w (ρv x) (a.eval x)) :
    Yields P ρ base σ w K r (convert src dst (a.eval x)) := by
  simp only [xa] at h
  split at h
  · cases h
  · rename_i hk
    have hk : (C.ti src).d.known = true := by cases hh : (C.ti src).d.known <;> simp_all
    obtain ⟨i1, z1, ks⟩ := addr_pos (P := P) hT hk
    have hsrc : ∃ u, P.underlying src = some u := by
      cases hu : P.underlying src with
      | none => have := ks.desc; rw [hu] at this; rw [← this] at hk; cases hk
      | some u => exact ⟨u, rfl⟩
    obtain ⟨us, hus⟩ := hsrc
    split at h
    · rename_i k k' n hd hx
      obtain ⟨i2, z2, kd⟩ := known (P := P) hT (t := dst) (by rw [hd]; exact fun e => by cases e)
      have hu := und_int (kd.desc.trans hd)
      rw [hx] at gx
      rw [show a.eval x = _ from gx]
      refine yields_of (v := .int k (k.wrap n)) ?_ h rfl
      simp [convert, run_underlying hus, run_underlying hu, Conv.intToInt]
    · rename_i s hd hx
      obtain ⟨i2, z2, kd⟩ := known (P := P) hT (t := dst) (by rw [hd]; exact fun e => by cases e)
      have hu := und_str (kd.desc.trans hd)
      rw [hx] at gx
      rw [show a.eval x = _ from gx]
      refine yields_of (v := .string s) ?_ h rfl
      simp [convert, run_underlying hus, run_underlying hu]
    · rename_i o l hd hx
      obtain ⟨i2, z2, kd⟩ := known (P := P) hT (t := dst) (by rw [hd]; exact fun e => by cases e)
      have hu := und_str (kd.desc.trans hd)
      split at h
      · rename_i e hds
        split at h
        · rename_i hde
          obtain ⟨i3, z3, ke⟩ := known (P := P) hT (t := e) (by rw [hde]; exact fun e => by cases e)
          have hue := und_int (ke.desc.trans hde)
          have hus' := und_sl (ks.desc.trans hds)
          rw [hx] at gx
          obtain ⟨A, cap, ex, hlc, hrow⟩ := row_at gx.1
          rw [ex]
          rcases hrow with rfl | ⟨β, off, cs, rfl, h2, h3⟩
          · refine yields_of (v := .string .empty) ?_ h rfl
            cases A with
            | none => simp [convert, run_underlying hus', run_underlying hu, run_underlying hue, Conv.bytesToString]
            | some A =>
              have hb := run_bytesToString (P := P) w A 0 cap [] (by simp [loadCells, loadCellsFrom])
              simp [convert, run_underlying hus', run_underlying hu, run_underlying hue, hb]
          · have hcs := RLs.ints h2
            have hl : (loadCells ⟨β, off, none⟩ l.length).run P w = .ok (l.map (Value.int .u8)).toArray w := by
              have := run_loadCells_list (P := P) w ⟨β, off, none⟩ cs (fun j v hv => by rw [addr_add]; exact (h3 j v hv).2)
              rw [hcs] at this
              simpa using this
            have hb := run_bytesToString w ⟨β, off, none⟩ l.length cap l hl
            refine yields_of (v := .string (bytesOf l)) ?_ h rfl
            have hfold : l.foldl (fun r n => r.push (UInt8.ofNat n.toNat)) ByteArray.empty = bytesOf l := by
              rw [foldl_push_bytes]; unfold bytesOf; congr 1; show #[] ++ _ = _; simp
            rw [hfold] at hb
            simp [convert, run_underlying hus', run_underlying hu, run_underlying hue, hb]
        · cases h
      · cases h
    · cases h
theorem unop_yields {C : Ctx} {op : UnOp} {t : TypeId} {x : Operand} {ρv : Operand → AV} {a : Act} (h : xa C ρv (.unOp op t x) K = some r) (gx : RA ρ base σ w (ρv x) (a.eval x)) : Yields P ρ base σ w K r (Op.unary op (a.eval x)) := by
  simp only [xa] at h
  split at h
  · rename_i k n hx
    rw [hx] at gx; rw [show a.eval x = _ from gx]
    exact yields_of rfl h rfl
  · rename_i k n hx
    rw [hx] at gx; rw [show a.eval x = _ from gx]
    exact yields_of (v := .int k (Go.bits .xor k (if k.signed then -1 else k.max) n)) rfl h rfl
  · rename_i p d hx
    rw [hx] at gx; rw [show a.eval x = _ from gx]
    exact yields_of (v := .bool (!(@decide p d))) rfl h (by show Value.bool _ = Value.bool _; by_cases e : p <;> simp [e])
  · cases h
theorem build_yields {C : Ctx} (hT : TabOk P C.T) {t : TypeId} {parts : Array (Nat × Operand)} {ρv : Operand → AV} {a : Act} (h : xa C ρv (.build t parts) K = some r) (hv : ∀ q ∈ parts.toList, RA ρ base σ w (ρv q.2) (a.eval q.2)) :
    Yields P ρ base σ w K r (Instr.build t (parts.map fun (i, x) => (i, a.eval x))) := by
  have hp : ∀ (j : Nat) i av, (parts.toList.map fun p => (p.1, ρv p.2))[j]? = some (i, av) → ∃ v, (parts.map fun (i, x) => (i, a.eval x)).toList[j]? = some (i, v) ∧ RA ρ base σ w av v := fun j i av hj => by
    rw [List.getElem?_map] at hj
    obtain ⟨q, hq, hqe⟩ := Option.map_eq_some_iff.1 hj
    simp only [Prod.mk.injEq] at hqe
    obtain ⟨rfl, rfl⟩ := hqe
    exact ⟨a.eval q.2, by rw [Array.toList_map, List.getElem?_map, hq]; rfl, hv q (List.mem_of_getElem? hq)⟩
  have hl : (parts.map fun (i, x) => (i, a.eval x)).toList.length = (parts.toList.map fun p => (p.1, ρv p.2)).length := by simp
  simp only [xa] at h
  split at h
  · rename_i fs hd
    obtain ⟨i, z, kn⟩ := known (P := P) hT (t := t) (by rw [hd]; exact fun e => by cases e)
    obtain ⟨F, hu, hF⟩ := und_st (kn.desc.trans hd)
    have hz := kn.zeroValue w
    split at h
    · rename_i cs hcs
      split at h
      · rename_i hall
        rw [kn.cells] at hcs
        have hplace : ∀ f ∈ F.toList, (Go.sizeOf f.type).run P w = .ok (C.ti f.type).size w := fun f hf => by
          have : (C.ti f.type).d.known = true := by
            rw [← hF] at hall
            simpa using List.all_eq_true.1 hall (f.type, f.offset) (List.mem_map.2 ⟨f, hf, rfl⟩)
          obtain ⟨i', z', k'⟩ := addr_pos (P := P) hT this
          exact k'.sizeOf w
        have hmap : (F.mapM fun f => (do pure (f.offset, ← Go.sizeOf f.type) : Sem (Nat × Nat))).run P w = .ok (F.map fun f => (f.offset, (C.ti f.type).size)) w := by
          rw [Array.mapM_eq_mapM_toList]
          have : ∀ l : List Field, (∀ f ∈ l, (Go.sizeOf f.type).run P w = .ok (C.ti f.type).size w) → ((l.mapM fun f => (do pure (f.offset, ← Go.sizeOf f.type) : Sem (Nat × Nat))) : Sem _).run P w = .ok (l.map fun f => (f.offset, (C.ti f.type).size)) w := by
            intro l
            induction l with
            | nil => intro _; simp
            | cons f l ih =>
              intro hl
              have e1 := hl f (List.mem_cons_self ..)
              have e2 := ih fun g hg => hl g (List.mem_cons_of_mem _ hg)
              rw [List.mapM_cons]
              simp only [Sem.run_bind, e1, Result.andThen_ok, e2, Sem.run_pure, List.map_cons]
          have e3 := this F.toList hplace
          simp only [Sem.run_map, e3, Result.andThen_ok]
          congr 1
          apply Array.ext'
          simp
        obtain ⟨vo, f1, f2⟩ := fill_sound (place := fun i => (F.map fun f => (f.offset, (C.ti f.type).size))[i]?) (by
          rw [← hcs]; congr 1; funext i
          rw [← hF, List.getElem?_map, Array.getElem?_map, ← Array.getElem?_toList]
          cases F.toList[i]? <;> rfl) (RAs.ofLeaf _) hl hp
        refine yields_of (v := .agg vo) ?_ h ⟨vo, rfl, f2⟩
        simp only [Instr.build, Sem.run_bind, hz, Result.andThen_ok, run_underlying hu, hmap, f1, Sem.run_pure]
      · cases h
    · cases h
  · rename_i n e hd
    obtain ⟨i, z, kn⟩ := known (P := P) hT (t := t) (by rw [hd]; exact fun e => by cases e)
    have hu := und_arr (kn.desc.trans hd)
    have hz := kn.zeroValue w
    split at h
    · rename_i cs hcs
      split at h
      · rename_i hk
        obtain ⟨i', z', ke⟩ := addr_pos (P := P) hT hk
        have hs := ke.sizeOf w
        rw [kn.cells] at hcs
        obtain ⟨vo, f1, f2⟩ := fill_sound hcs (RAs.ofLeaf _) hl hp
        refine yields_of (v := .agg vo) ?_ h ⟨vo, rfl, f2⟩
        simp only [Instr.build, Sem.run_bind, hz, Result.andThen_ok, run_underlying hu, hs, f1, Sem.run_pure]
      · cases h
    · cases h
  · cases h
theorem builtSlice_wp {C : Ctx} (hT : TabOk P C.T) {o : Oper} {t : TypeId} {n : Nat} {parts : Array (Nat × Operand)} {ρv : Operand → AV} {a : Act} {Q : Exit → Act → World → Prop} (ho : o.op = .buildSlice t n parts)
    (h : built C ρv t n parts.toList (fun u l => if n = 0 then K (.emp u) else K (.sl none u l)) = some r) (hv : ∀ q ∈ parts.toList, RA ρ base σ w (ρv q.2) (a.eval q.2)) (hσ : Fits σ w) : o.wp P a w (Out ρ base σ w K r o a) Q := by
  obtain ⟨u, l, vs, e, hk, hr, h1, h2, h3, h4⟩ := built_sound hT h hv
  obtain ⟨g1, g2⟩ := grow_alloc hσ vs e vs.size (Nat.le_refl _)
  obtain ⟨av, hk, hav⟩ : ∃ av, K av = some r ∧ RA ρ base (fun b o => σ b o ∨ (b = w.heap.size ∧ o < vs.size)) (w.alloc (.cells vs e)) av (.slice (some ⟨w.heap.size, 0, none⟩) n n) := by
    split at hk
    · rename_i hn
      subst hn
      exact ⟨_, hk, _, rfl, .inr ⟨_, _, rfl⟩⟩
    · refine ⟨_, hk, ?_, fun i e => by cases e⟩
      subst h2
      refine ⟨_, _, rfl, Nat.le_refl _, .inr ⟨w.heap.size, 0, vs.toList, rfl, RLs.mono (fun _ _ => RE.mono (g1.keeps hσ)) h1, ?_⟩⟩
      rw [List.take_of_length_le (by simp)] at g2
      exact g2
  refine out_run (v := .slice (some ⟨w.heap.size, 0, none⟩) n n) (w' := w.alloc (.cells vs e)) ?_ hk hav g1
  · have he : execOp a.eval o = (do pure (.value (← Instr.buildSlice t n (parts.map fun (i, x) => (i, a.eval x))))) := by simp only [execOp, ho]
    have hp : (parts.toList.map fun q => (q.1, a.eval q.2)).toArray = parts.map fun (i, x) => (i, a.eval x) := by apply Array.ext'; simp
    rw [he, ← hp]
    simp [hr]
theorem call_wp {C : Ctx} (hG : ∀ c ∈ C.G, ConOk P c) {o : Oper} {c : Call} {f : Operand} {g : FuncId} {caps : List AV} {ρv : Operand → AV} {a : Act} {Q : Exit → Act → World → Prop} (ho : o.op = .call c) (hc : c.callee = .value f)
    (hf : ρv f = .fn g caps) (h : callOf C g (c.args.toList.map ρv ++ caps) K = some r) (hv : ∀ x ∈ o.op.operands.toList, RA ρ base σ w (ρv x) (a.eval x)) (hσ : Fits σ w) : o.wp P a w (Out ρ base σ w K r o a) Q := by
  have gf := hv f (by rw [ho]; simp [Op.operands, Call.operands, hc])
  rw [hf] at gf
  obtain ⟨vs, ef, gc⟩ := gf
  have ga : RAs ρ base σ w (c.args.toList.map ρv) (c.args.toList.map a.eval) := maps_ra fun x hx => hv x (by rw [ho]; simp [Op.operands, Call.operands, hx])
  obtain ⟨h1, h2⟩ := callOf_sound hG h (ga.append gc) hσ
  unfold Oper.wp
  have hrun : (execOp a.eval o).run P w = .ok (.enter g (c.args.toList.map a.eval ++ vs.toList).toArray) w := by
    have hargs : (c.args.toList.map a.eval ++ vs.toList).toArray = c.args.map a.eval ++ vs := by apply Array.ext'; simp
    rw [hargs] at h1 ⊢
    simp [execOp, ho, resolve, hc, ef, Deferred.ofValue, invoke, h1]
  rw [hrun, Oper.upon_enter]
  exact h2.mono fun e w' ⟨v, σ', av, e1, e2, e3, e4⟩ => by subst e1; exact ⟨av, v, σ', e2, rfl, e3, e4⟩
theorem len_yields {C : Ctx} (hT : TabOk P C.T) {t ty : TypeId} {v : AV} {u : Value} {n : Nat} (hn : lenOf (C.ti t).d v = some n) (h : K (.int .i64 n) = some r) (g : RA ρ base σ w v u) :
    Yields P ρ base σ w K r (Builtin.len_ #[t] ty #[u]) := by
  cases hd : (C.ti t).d <;> rw [hd] at hn <;> try (cases v <;> simp [lenOf] at hn; done)
  case str =>
    obtain ⟨i, z, kn⟩ := known (P := P) hT (t := t) (by rw [hd]; exact fun e => by cases e)
    have hu := und_str (kn.desc.trans hd)
    cases v <;> simp only [lenOf] at hn <;> cases hn
    rw [show u = _ from g]
    exact yields_of (v := .int .i64 _) (by simp [Builtin.len_, run_underlying hu, goInt]) h rfl
  case sl e =>
    obtain ⟨i, z, kn⟩ := known (P := P) hT (t := t) (by rw [hd]; exact fun e => by cases e)
    have hu := und_sl (kn.desc.trans hd)
    cases v <;> simp only [lenOf] at hn <;> cases hn
    · obtain ⟨A, c, e, _⟩ := row_at g.1
      rw [e]
      exact yields_of (v := .int .i64 _) (by simp [Builtin.len_, run_underlying hu, goInt]) h rfl
    · rw [show u = _ from g]
      exact yields_of (v := .int .i64 0) (by simp [Builtin.len_, run_underlying hu, goInt]) h rfl
    · obtain ⟨A, c, e, _⟩ := g
      rw [e]
      exact yields_of (v := .int .i64 _) (by simp [Builtin.len_, run_underlying hu, goInt]) h rfl
    · obtain ⟨A, e, _⟩ := g
      rw [e]
      exact yields_of (v := .int .i64 0) (by simp [Builtin.len_, run_underlying hu, goInt]) h rfl
  case arr m e =>
    obtain ⟨i, z, kn⟩ := known (P := P) hT (t := t) (by rw [hd]; exact fun e => by cases e)
    have hu := und_arr (kn.desc.trans hd)
    have : m = n := by cases v <;> simpa [lenOf] using hn
    subst this
    exact yields_of (v := .int .i64 m) (by simp [Builtin.len_, run_underlying hu, goInt]) h rfl
theorem xa_sound {C : Ctx} (hT : TabOk P C.T) (hG : ∀ c ∈ C.G, ConOk P c) {ρv : Operand → AV} {a : Act} {o : Oper} {Q : Exit → Act → World → Prop} (hσ : Fits σ w)
    (hv : ∀ x ∈ o.op.operands.toList, RA ρ base σ w (ρv x) (a.eval x)) (h : xa C ρv o.op K = some r) : o.wp P a w (Out ρ base σ w K r o a) Q := by
  cases ho : o.op with
  | move x => rw [ho] at h hv; exact out_run (v := a.eval x) (by simp [execOp, ho]) h (hv x (by simp [Op.operands])) (Grow.refl hσ)
  | assign x => rw [ho] at h hv; exact out_run (v := a.eval x) (by simp [execOp, ho]) h (hv x (by simp [Op.operands])) (Grow.refl hσ)
  | pick c x y =>
    rw [ho] at h hv
    simp only [xa] at h
    split at h
    · rename_i p d hc
      have gc := hv c (by simp [Op.operands])
      rw [hc] at gc
      have ec : a.eval c = .bool (@decide p d) := gc
      split at h
      · rename_i hp
        exact out_run (v := a.eval x) (by simp [execOp, ho, ec, asBool, hp]) h (hv x (by simp [Op.operands])) (Grow.refl hσ)
      · rename_i hp
        exact out_run (v := a.eval y) (by simp [execOp, ho, ec, asBool, hp]) h (hv y (by simp [Op.operands])) (Grow.refl hσ)
    · cases h
  | build t parts =>
    rw [ho] at h hv
    exact out_yields (by simp only [execOp, ho]) (build_yields hT h fun q hq => hv q.2 (by simp only [Op.operands]; exact List.mem_map.2 ⟨q, hq, rfl⟩)) hσ
  | buildSlice t n parts =>
    rw [ho] at h hv
    exact builtSlice_wp hT ho h (fun q hq => hv q.2 (by simp only [Op.operands]; exact List.mem_map.2 ⟨q, hq, rfl⟩)) hσ
  | nilCheck x =>
    rw [ho] at h hv
    have gx := hv x (by simp [Op.operands])
    simp only [xa] at h
    split at h
    · rename_i b i hx
      rw [hx] at gx
      obtain ⟨β, e1, e2⟩ := gx
      exact out_run (v := a.eval x) (by simp [execOp, ho, e2]) h ⟨β, e1, e2⟩ (Grow.refl hσ)
    · rename_i t y i hx
      rw [hx] at gx
      obtain ⟨β, o', vs, e1, e2⟩ := gx
      exact out_run (v := a.eval x) (by simp [execOp, ho, e1]) h ⟨β, o', vs, e1, e2⟩ (Grow.refl hσ)
    · cases h
  | binOp op xt x y yt =>
    rw [ho] at h hv
    exact out_yields (by simp only [execOp, ho]) (binop_yields hT h (hv x (by simp [Op.operands])) (hv y (by simp [Op.operands]))) hσ
  | unOp op t x => rw [ho] at h hv; exact out_yields (by simp only [execOp, ho]) (unop_yields h (hv x (by simp [Op.operands]))) hσ
  | convert s d x => rw [ho] at h hv; exact out_yields (by simp only [execOp, ho]) (convert_yields hT h (hv x (by simp [Op.operands]))) hσ
  | slice t x lo hi mx => rw [ho] at h hv; exact out_yields (by simp only [execOp, ho]) (slice_yields hT h hv) hσ
  | fieldAddr t x f => rw [ho] at h hv; exact out_yields (by simp only [execOp, ho]) (fieldAddr_yields hT h (hv x (by simp [Op.operands]))) hσ
  | field t x f =>
    rw [ho] at h hv
    have gx := hv x (by simp [Op.operands])
    simp only [xa] at h
    split at h
    · rename_i fs cs hd hx
      split at h
      · rename_i q hq
        rw [hx] at gx
        obtain ⟨vs, ex, gx⟩ := gx
        obtain ⟨i, z, kn⟩ := known (P := P) hT (t := t) (by rw [hd]; exact fun e => by cases e)
        obtain ⟨F, hu, hF⟩ := und_st (kn.desc.trans hd)
        rw [← hF, List.getElem?_map] at hq
        obtain ⟨fd, hfd, rfl⟩ := Option.map_eq_some_iff.1 hq
        rw [Array.getElem?_toList] at hfd
        obtain ⟨av, v, h1, h2, h3⟩ := partOf_sound hT h gx
        refine out_yields (s := Instr.field t (a.eval x) f) (by simp only [execOp, ho]) ⟨av, v, ?_, h2, h3⟩ hσ
        rw [ex]
        simp [Instr.field, run_underlying hu, hfd, asAgg, h1]
      · cases h
    · cases h
  | indexAddr t x i => rw [ho] at h hv; exact out_yields (by simp only [execOp, ho]) (indexAddr_yields hT h (hv x (by simp [Op.operands])) (hv i (by simp [Op.operands]))) hσ
  | index t x i => rw [ho] at h hv; exact out_yields (by simp only [execOp, ho]) (index_yields hT h (hv x (by simp [Op.operands])) (hv i (by simp [Op.operands]))) hσ
  | extract x i =>
    rw [ho] at h hv
    have gx := hv x (by simp [Op.operands])
    simp only [xa] at h
    split at h
    · rename_i vs hx
      split at h
      · rename_i v hi
        rw [hx] at gx
        obtain ⟨us, ex, gx⟩ := gx
        obtain ⟨u, hu, g⟩ := gx.get hi
        rw [Array.getElem?_toList] at hu
        refine out_yields (s := Instr.extract (a.eval x) i) (by simp only [execOp, ho]) (yields_of (v := u) ?_ h g) hσ
        rw [ex]
        simp [Instr.extract, hu]
      · cases h
    · cases h
  | makeFunc fn first caps =>
    rw [ho] at h hv
    cases fn with
    | func f =>
      simp only [xa] at h
      split at h
      · rename_i hf
        obtain rfl : first = #[] := Array.eq_empty_of_size_eq_zero hf
        refine out_yields (s := Instr.makeFunc (.func f) ((#[] : Array Operand).map a.eval) (caps.map a.eval)) (by simp only [execOp, ho]) (yields_of (v := .func (.func f) #[] (caps.map a.eval)) (by simp [Instr.makeFunc]) h ⟨_, rfl, ?_⟩) hσ
        rw [Array.toList_map]
        exact maps_ra fun x hx => hv x (by simp only [Op.operands]; simpa using hx)
      · cases h
    | _ => simp [xa] at h
  | call c =>
    rw [ho] at h
    simp only [xa] at h
    split at h
    · rename_i f hc
      split at h
      · rename_i g caps hf
        exact call_wp hG ho hc hf h hv hσ
      · cases h
    · rename_i hc
      split at h
      · rename_i v t ha ht
        split at h
        · rename_i n hn
          obtain ⟨x, hx⟩ : ∃ x, c.args = #[x] := by
            have hl : c.args.toList.length = 1 := by have := congrArg List.length ha; simpa using this
            obtain ⟨x, hx⟩ := List.length_eq_one_iff.1 hl
            exact ⟨x, by apply Array.ext'; simpa using hx⟩
          rw [hx] at ha
          simp only [List.map_cons, List.map_nil, List.cons.injEq, and_true] at ha
          have gx := hv x (by rw [ho]; simp [Op.operands, Call.operands, hc, hx])
          rw [ha] at gx
          have ht' : c.argTypes = #[t] := by apply Array.ext'; simpa using ht
          obtain ⟨av, u, h1, h2, h3⟩ := len_yields (ty := o.type) hT hn h gx
          refine out_run (v := u) ?_ h2 h3 (Grow.refl hσ)
          simp [execOp, ho, resolve, hc, hx, invoke, builtin, ht', h1]
        · cases h
      · cases h
    · rename_i hc
      split at h
      · rename_i k m l n ha
        split at h
        · rename_i hk
          subst hk
          obtain ⟨x, y, hx⟩ : ∃ x y, c.args = #[x, y] := by
            have hl : c.args.toList.length = 2 := by have := congrArg List.length ha; simpa using this
            cases hL : c.args.toList with
            | nil => rw [hL] at hl; simp at hl
            | cons x l =>
            cases l with
            | nil => rw [hL] at hl; simp at hl
            | cons y l =>
            cases l with
            | cons _ _ => rw [hL] at hl; simp at hl
            | nil => exact ⟨x, y, by apply Array.ext'; simpa using hL⟩
          rw [hx] at ha
          simp only [List.map_cons, List.map_nil, List.cons.injEq, and_true] at ha
          have gx := hv x (by rw [ho]; simp [Op.operands, Call.operands, hc, hx])
          have gy := hv y (by rw [ho]; simp [Op.operands, Call.operands, hc, hx])
          rw [ha.1] at gx
          rw [ha.2] at gy
          have ex : a.eval x = .int k m := gx
          have ey : a.eval y = .int k n := gy
          split at h
          · rename_i hlt
            exact out_run (v := .int k n) (by simp [execOp, ho, resolve, hc, hx, invoke, builtin, Builtin.min_, Builtin.min2, ex, ey, hlt]) h rfl (Grow.refl hσ)
          · rename_i hlt
            exact out_run (v := .int k m) (by simp [execOp, ho, resolve, hc, hx, invoke, builtin, Builtin.min_, Builtin.min2, ex, ey, hlt]) h rfl (Grow.refl hσ)
        · cases h
      · cases h
    · rename_i hc
      split at h
      · rename_i k m l n ha
        split at h
        · rename_i hk
          subst hk
          obtain ⟨x, y, hx⟩ : ∃ x y, c.args = #[x, y] := by
            have hl : c.args.toList.length = 2 := by have := congrArg List.length ha; simpa using this
            cases hL : c.args.toList with
            | nil => rw [hL] at hl; simp at hl
            | cons x l =>
            cases l with
            | nil => rw [hL] at hl; simp at hl
            | cons y l =>
            cases l with
            | cons _ _ => rw [hL] at hl; simp at hl
            | nil => exact ⟨x, y, by apply Array.ext'; simpa using hL⟩
          rw [hx] at ha
          simp only [List.map_cons, List.map_nil, List.cons.injEq, and_true] at ha
          have gx := hv x (by rw [ho]; simp [Op.operands, Call.operands, hc, hx])
          have gy := hv y (by rw [ho]; simp [Op.operands, Call.operands, hc, hx])
          rw [ha.1] at gx
          rw [ha.2] at gy
          have ex : a.eval x = .int k m := gx
          have ey : a.eval y = .int k n := gy
          split at h
          · rename_i hlt
            exact out_run (v := .int k n) (by simp [execOp, ho, resolve, hc, hx, invoke, builtin, Builtin.max_, Builtin.max2, ex, ey, hlt]) h rfl (Grow.refl hσ)
          · rename_i hlt
            exact out_run (v := .int k m) (by simp [execOp, ho, resolve, hc, hx, invoke, builtin, Builtin.max_, Builtin.max2, ex, ey, hlt]) h rfl (Grow.refl hσ)
        · cases h
      · cases h
    · cases h
  | _ => rw [ho] at h; simp [xa] at h
end Go.Proofs.Ytnhogpbibcgpkaa.Xe
