/- The executor: calls that look at variables or turn them; what is looked at by the way. -/
import Derived.Test.YtnhogpbibcgpkaaXnb
namespace Go.Proofs.Ytnhogpbibcgpkaa.Xe
open Go Go.RowKit
set_option linter.unusedVariables false
set_option linter.unusedSimpArgs false
variable {P : Program} {R : Type} {w0 : World} {σ0 : Nat → Nat → Prop} {ρ : Env} {σ : Nat → Nat → Prop} {w : World} {r : R}
theorem str_of_cells {src dst e : TypeId} {A : Addr} {n cap : Nat} {z : List Int} {i : TypeInfo} (hs : P.underlying src = some (.slice e)) (he : P.underlying e = some (.int .u8)) (hd : P.underlying dst = some .string)
    (hc : ∀ j v, (z.map (Value.int .u8))[j]? = some v → w.cell? ⟨A.block, A.off + j, none⟩ = some v) (hA : A.spot = none) (hn : n = z.length) : (convert src dst (.slice (some A) n cap)).run P w = .ok (.string (bytesOf z)) w := by
  subst hn
  obtain ⟨β, off, sp⟩ := A
  simp only at hA hc; subst hA
  have hl := run_loadCells_list (P := P) w ⟨β, off, none⟩ (z.map (Value.int .u8)) (fun j v hv => by rw [addr_add]; exact hc j v hv)
  rw [List.length_map] at hl
  have hb := run_bytesToString w ⟨β, off, none⟩ z.length cap z hl
  have hfold : z.foldl (fun r n => r.push (UInt8.ofNat n.toNat)) ByteArray.empty = bytesOf z := by
    rw [foldl_push_bytes]; unfold bytesOf; congr 1; show #[] ++ _ = _; simp
  rw [hfold] at hb
  simp [convert, run_underlying hs, run_underlying hd, run_underlying he, hb]
theorem bytesIn_spec : ∀ {l : List AV} {z : List Int}, bytesIn l = some z → z.length = l.length ∧ ∀ (j : Nat) (v : AV), l[j]? = some v → ∃ n, v = AV.int .u8 n ∧ z[j]? = some n
  | [], z, h => by obtain rfl := Option.some.inj h; exact ⟨rfl, fun j v hv => by simp at hv⟩
  | .int k n :: l, z, h => by
    cases k <;> simp only [bytesIn] at h <;> try (cases h; done)
    split at h
    · rename_i l' hl'
      obtain rfl := Option.some.inj h
      obtain ⟨g1, g2⟩ := bytesIn_spec hl'
      refine ⟨by simp [g1], fun j v hv => ?_⟩
      cases j with
      | zero => simp at hv; exact ⟨n, hv.symm, rfl⟩
      | succ j => exact g2 j v (by simpa using hv)
    · cases h
theorem conv_wp {C : Ctx} (hT : TabOk P C.T) {s : St} {K : AV → St → Option R} {o : Oper} {a : Act} {Q : Exit → Act → World → Prop} {src dst e : TypeId} {x : Operand} {b sz off n : Nat} {z : List Int} (ho : o.op = .convert src dst x) (hH : HR P w0 σ0 ρ σ (fun b => s.boxes[b]?) s.alive w)
    (hd : (C.ti dst).d = .str) (hs : (C.ti src).d = .sl e) (he : (C.ti e).d = .int .u8) (hx : ev s x = .ms b sz off n) (h1 : sz = 1) (gx : RA ρ w0.heap.size σ w (ev s x) (a.eval x)) (hzl : z.length = n)
    (hz : ∀ β, ρ.φ b = some β → ∀ j v, (z.map (Value.int .u8))[j]? = some v → w.cell? ⟨β, off + j, none⟩ = some v) (h : K (.str (bytesOf z)) s = some r) : o.wp P a w (XOut P w0 σ0 ρ σ w K r s o a) Q := by
  obtain ⟨i1, z1, ks⟩ := known (P := P) hT (t := src) (by rw [hs]; exact fun e => by cases e)
  obtain ⟨i2, z2, kd⟩ := known (P := P) hT (t := dst) (by rw [hd]; exact fun e => by cases e)
  obtain ⟨i3, z3, ke⟩ := known (P := P) hT (t := e) (by rw [he]; exact fun e => by cases e)
  have hus := und_sl (ks.desc.trans hs)
  have hud := und_str (kd.desc.trans hd)
  have hue := und_int (ke.desc.trans he)
  rw [hx] at gx
  obtain ⟨A, cap, ex, hnc, hA⟩ := gx
  have key : (convert src dst (a.eval x)).run P w = .ok (.string (bytesOf z)) w := by
    rw [ex]
    by_cases hn : n = 0
    · have hz0 : z = [] := List.eq_nil_of_length_eq_zero (by rw [hzl, hn])
      subst hz0
      rcases hA with ⟨rfl, _⟩ | ⟨β, o', rfl, _⟩
      · simp [convert, run_underlying hus, run_underlying hud, run_underlying hue, Conv.bytesToString]; rfl
      · exact str_of_cells (i := i1) hus hue hud (fun j v hv => by simp at hv) rfl hzl.symm
    · obtain ⟨β, o', eA, hA2⟩ := hA.resolve_left (fun hh => hn hh.2)
      subst eA
      obtain ⟨q1, q2⟩ := hA2.resolve_left hn
      rw [h1, Nat.mul_one] at q2
      subst q2
      exact str_of_cells (i := i1) hus hue hud (hz β q1) rfl hzl.symm
  exact xout_run (nx := .value (.string (bytesOf z))) (w' := w) (by simp [execOp, ho, key]) (.inl rfl) h rfl rfl Mono.refl hH
/-! ### Calls that look -/
theorem RE.flat {σ' : Nat → Nat → Prop} {w' : World} : ∀ {t : Ty} {x : El t} {vs : List Value}, t.flat = true → RE σ w t x vs → RE σ' w' t x vs
  | .int _, _, _, _, g => g
  | .bool, _, _, _, g => g
  | .str, _, _, _, g => g
  | .unit, _, _, _, g => g
  | .pair _ _, _, _, h, ⟨u, v, e, g, k⟩ => by
    simp only [Ty.flat, Bool.and_eq_true] at h
    exact ⟨u, v, e, RE.flat h.1 g, RE.flat h.2 k⟩
  | .sl _, _, _, h, _ => by cases h
theorem R1.flat {σ' : Nat → Nat → Prop} {w' : World} {s : Shp} {x : El s.ty} {v : Value} (h : s.flat = true) (g : R1 σ w s x v) : R1 σ' w' s x v := by
  cases s with
  | v t => exact RE.flat h g
  | a t => obtain ⟨cs, e, g⟩ := g; exact ⟨cs, e, RE.flat h g⟩
  | p t => cases h
  | fn f l => cases h
theorem RS.flat {σ' : Nat → Nat → Prop} {w' : World} : ∀ {sg : List Shp} {x : El (sgTy sg)} {vs : List Value}, sg.all Shp.flat = true → RS σ w sg x vs → RS σ' w' sg x vs
  | [], _, _, _, g => g
  | [s], x, _, h, ⟨v, e, g⟩ => by
    simp only [List.all_cons, List.all_nil, Bool.and_true] at h
    exact ⟨v, e, R1.flat h g⟩
  | s :: r :: l, x, _, h, ⟨v, q, e, g, k⟩ => by
    rw [List.all_cons, Bool.and_eq_true] at h
    exact ⟨v, q, e, R1.flat h.1 g, RS.flat h.2 k⟩
theorem RR.flat {σ' : Nat → Nat → Prop} {w' : World} {rs : Rs} {x : El rs.ty} {v : Value} (h : rs.flat = true) (g : RR σ w rs x v) : RR σ' w' rs x v := by
  cases rs with
  | one s => exact R1.flat h g
  | tup l => obtain ⟨vs, e, g⟩ := g; exact ⟨vs, e, RS.flat h g⟩
/-- The caller's variables stay while the called one looks. -/
def Still (ρ : Env) (σ : Nat → Nat → Prop) : Nat → Nat → Prop := fun b o => σ b o ∨ ∃ x, ρ.φ x = some b
theorem HR.still {bx al} (h : HR P w0 σ0 ρ σ bx al w) : Mono ρ σ w ρ (Still ρ σ) w ∧ Fits (Still ρ σ) w :=
  ⟨⟨⟨fun _ _ x => .inl x, fun _ _ _ _ x => x⟩, fun _ _ x => x, Nat.le_refl _, fun i ow _ x => ⟨x, fun β e => ⟨fun o y => y.elim id fun ⟨z, hz⟩ => absurd hz ((h.own i β (by rw [x, e])).2.2 z), fun _ _ _ hc => hc⟩⟩⟩,
   fun b o x => x.elim (h.fits b o) fun ⟨z, hz⟩ => (h.phi z b hz).2.2.1⟩
theorem frzP_sound {s : St} (h : HR P w0 σ0 ρ σ (fun b => s.boxes[b]?) s.alive w) {t : Ty} {a : AV} {v : Value} (g : RA ρ w0.heap.size σ w a v) : RA ρ w0.heap.size (Still ρ σ) w (frzP s t a) v := by
  unfold frzP
  split
  · rename_i b i
    split
    · rename_i cs hcs
      split
      · rename_i hp
        split
        · rename_i x hx
          obtain ⟨β, h1, h2⟩ := h.box b cs hcs
          obtain ⟨us, e, h3, h4⟩ := h2.plain hp
          obtain ⟨β', h1', ev⟩ := g
          rw [h1] at h1'
          obtain rfl := Option.some.inj h1'
          have h5 := (h4.drop i).take t.sz
          obtain ⟨u, q, e1, e2, e3⟩ := dec_sound hx h5
          obtain rfl : q = [] := e3
          rw [List.append_nil] at e1
          refine ⟨β, i, u, by rw [ev]; rfl, RE.mono h.still.1.toKeeps e2, fun j v' hv => ⟨.inr ⟨b, h1⟩, ?_⟩⟩
          rw [cell_of_row w β (i + j) us e (0, 0) h3, ← Array.getElem?_toList]
          rw [← e1, List.getElem?_take] at hv
          split at hv
          · rw [List.getElem?_drop] at hv; exact hv
          · cases hv
        · trivial
      · trivial
    · trivial
  · exact RA.mono h.still.1 _ g
theorem frzPs_sound {s : St} (h : HR P w0 σ0 ρ σ (fun b => s.boxes[b]?) s.alive w) : ∀ (l : List Ty) {as : List AV} {vs : List Value}, RAs ρ w0.heap.size σ w as vs → RAs ρ w0.heap.size (Still ρ σ) w (frzPs s l as) vs
  | [], as, _, g => by
    have : frzPs s [] as = as := by cases as <;> rfl
    rw [this]; exact RAs.mono h.still.1 _ g
  | t :: l, [], _, g => g
  | t :: l, a :: as, _, ⟨v, q, e, g, k⟩ => ⟨v, q, e, frzP_sound h g, frzPs_sound h l k⟩
theorem frz_sound {s : St} (h : HR P w0 σ0 ρ σ (fun b => s.boxes[b]?) s.alive w) {sh : Shp} {a : AV} {v : Value} (g : RA ρ w0.heap.size σ w a v) : RA ρ w0.heap.size (Still ρ σ) w (frz s sh a) v := by
  unfold frz
  split
  · exact frzP_sound h g
  · obtain ⟨vs, e, g⟩ := g
    exact ⟨vs, e, frzPs_sound h _ g⟩
  · exact RA.mono h.still.1 _ g
theorem frzs_sound {s : St} (h : HR P w0 σ0 ρ σ (fun b => s.boxes[b]?) s.alive w) : ∀ (l : List Shp) {as : List AV} {vs : List Value}, RAs ρ w0.heap.size σ w as vs → RAs ρ w0.heap.size (Still ρ σ) w (frzs s l as) vs
  | [], as, _, g => by
    have : frzs s [] as = as := by cases as <;> rfl
    rw [this]; exact RAs.mono h.still.1 _ g
  | t :: l, [], _, g => g
  | t :: l, a :: as, _, ⟨v, q, e, g, k⟩ => ⟨v, q, e, frz_sound h g, frzs_sound h l k⟩
/-- What a function that turns the caller's variables is held to. -/
structure ConSOk (P : Program) (c : ConS) : Prop where
  there : ∃ fn, P.funcs[c.id]? = some fn ∧ fn.body.isSome = true ∧ (fn.name == "runtime.NumGoroutine") = false
  calls : ∀ {w0 : World} {σ0 : Nat → Nat → Prop} {ρ : Env} {σ : Nat → Nat → Prop} {w : World} {s : St} {as : List AV} {vs : List Value} {t : Ty} {y : El t} {g : El t → AV × St}, c.run as s = some ⟨t, some y, g⟩ → RAs ρ w0.heap.size σ w as vs →
    HR P w0 σ0 ρ σ (fun b => s.boxes[b]?) s.alive w → Calls P c.id vs.toArray w fun e w' => ∃ v ρ' σ', e = .returned v ∧ RA ρ' w0.heap.size σ' w' (g y).1 v ∧ Mono ρ σ w ρ' σ' w' ∧ HR P w0 σ0 ρ' σ' (fun b => (g y).2.boxes[b]?) (g y).2.alive w'
structure CtxOk (P : Program) (C : Ctx) : Prop where
  g : ∀ c ∈ C.G, ConOk P c
  s : ∀ c ∈ C.S, ConSOk P c
theorem callS_wp {C : Ctx} (hG : CtxOk P C) {s : St} {K : AV → St → Option R} {o : Oper} {c : Call} {f : Operand} {g : FuncId} {caps : List AV} {a : Act} {Q : Exit → Act → World → Prop} (ho : o.op = .call c) (hc : c.callee = .value f) (hH : HR P w0 σ0 ρ σ (fun b => s.boxes[b]?) s.alive w)
    (hf : ev s f = .fn g caps) (h : callS C s g (c.args.toList.map (ev s) ++ caps) K = some r) (hv : ∀ x ∈ o.op.operands.toList, RA ρ w0.heap.size σ w (ev s x) (a.eval x)) : o.wp P a w (XOut P w0 σ0 ρ σ w K r s o a) Q := by
  have gf := hv f (by rw [ho]; simp [Op.operands, Call.operands, hc])
  rw [hf] at gf
  obtain ⟨vs, ef, gc⟩ := gf
  have ga : RAs ρ w0.heap.size σ w (c.args.toList.map (ev s)) (c.args.toList.map a.eval) := maps_ra fun x hx => hv x (by rw [ho]; simp [Op.operands, Call.operands, hx])
  have gall := ga.append gc
  have hargs : (c.args.toList.map a.eval ++ vs.toList).toArray = c.args.map a.eval ++ vs := by apply Array.ext'; simp
  have run : (callFunc g (c.args.toList.map a.eval ++ vs.toList).toArray).run P w = .ok (.enter g (c.args.toList.map a.eval ++ vs.toList).toArray) w → (execOp a.eval o).run P w = .ok (.enter g (c.args.toList.map a.eval ++ vs.toList).toArray) w := fun h1 => by
    rw [hargs] at h1 ⊢
    simp [execOp, ho, resolve, hc, ef, Deferred.ofValue, invoke, h1]
  unfold callS at h
  split at h
  · rename_i d hd
    have hmem := List.mem_of_find?_eq_some hd
    have hid : d.id = g := by simpa using List.find?_some hd
    split at h
    · rename_i t x gg hrun
      obtain ⟨y, hy, h⟩ := Option.bind_eq_some_iff.1 h
      subst hy
      have k := hG.s d hmem
      have h2 := k.calls hrun gall hH
      have h1 := run_callFunc k.there (c.args.toList.map a.eval ++ vs.toList).toArray w
      rw [hid] at h1 h2
      unfold Oper.wp
      rw [run h1, Oper.upon_enter]
      exact h2.mono fun e w' ⟨v, ρ', σ', e1, e2, e3, e4⟩ => by subst e1; exact ⟨_, _, v, ρ', σ', h, rfl, rfl, e2, e3, e4⟩
    · cases h
  · split at h
    · rename_i d hd
      have hmem := List.mem_of_find?_eq_some hd
      have hid : d.id = g := by simpa using List.find?_some hd
      split at h
      · split at h
        · rename_i hfl
          split at h
          · rename_i x hx
            obtain ⟨y, hy, h⟩ := Option.bind_eq_some_iff.1 h
            have k := hG.g d hmem
            have gfr := frzs_sound hH d.sg gall
            have h2 := k.calls x y hy (Still ρ σ) w _ hH.still.2 (decs_sound hx gfr)
            have h1 := run_callFunc k.there (c.args.toList.map a.eval ++ vs.toList).toArray w
            rw [hid] at h1 h2
            unfold Oper.wp
            rw [run h1, Oper.upon_enter]
            refine h2.mono fun e w' ⟨v, σ', e1, e2, e3⟩ => ?_
            subst e1
            have hgr : Grow σ w (fun b o => σ' b o ∧ ¬ ∃ x, ρ.φ x = some b) w' := ⟨e2.below, fun b o hs => ⟨e2.sig b o (.inl hs), fun ⟨x, hx⟩ => (hH.phi x b hx).2.2.2 o hs⟩, fun b o hs => (e2.new b o hs.1).imp (fun hh => hh.resolve_right hs.2) id, fun b o hs => e2.lt b o hs.1⟩
            exact ⟨_, s, v, ρ, _, h, rfl, rfl, RR.ra (RR.flat hfl e3), hH.mono hgr, hH.grow hgr⟩
          · cases h
        · cases h
      · exact xout_of_out hH (call_wp hG.g ho hc hf h hv hH.fits)
    · cases h
theorem xm_sound {C : Ctx} (hT : TabOk P C.T) (hG : CtxOk P C) {s : St} {K : AV → St → Option R} {o : Oper} {a : Act} {Q : Exit → Act → World → Prop}
    (hv : ∀ x ∈ o.op.operands.toList, RA ρ w0.heap.size σ w (ev s x) (a.eval x)) (hH : HR P w0 σ0 ρ σ (fun b => s.boxes[b]?) s.alive w) (h : xm C s o.op K = some r) : o.wp P a w (XOut P w0 σ0 ρ σ w K r s o a) Q := by
  have other : xa C (ev s) o.op (fun v => K v s) = some r → o.wp P a w (XOut P w0 σ0 ρ σ w K r s o a) Q := fun h' => xout_of_out hH (xa_sound hT hG.g hH.fits hv h')
  unfold xm at h
  split at h
  · rename_i src dst x ho
    have gx := hv x (by rw [ho]; simp [Op.operands])
    split at h
    · rename_i e b sz off n hd hs hx
      split at h
      · rename_i l he hr
        split at h
        · rename_i h1
          obtain ⟨z, hz, hk⟩ := Option.bind_eq_some_iff.1 h
          unfold lpart at hz
          split at hz
          · rename_i hle
            obtain rfl := Option.some.inj hz
            refine conv_wp hT ho hH hd hs he hx h1 gx (by rw [List.length_take, List.length_drop]; omega) (fun β hβ j v hj => ?_) hk
            obtain ⟨β', q1, q2⟩ := hH.box b _ (rowOf_some hr)
            rw [hβ] at q1
            obtain rfl := Option.some.inj q1
            obtain ⟨us, e', q3, q4⟩ := q2.row
            have q5 := RLs.ints q4
            rw [cell_of_row w β (off + j) us e' (0, 0) q3, ← Array.getElem?_toList, q5, List.getElem?_map]
            rw [List.getElem?_map, List.getElem?_take] at hj
            split at hj
            · rw [List.getElem?_drop] at hj; exact hj
            · simp at hj
          · cases hz
        · cases h
      · rename_i he hr
        split at h
        · rename_i h1
          split at h
          · rename_i cs hcs
            split at h
            · rename_i hc
              split at h
              · rename_i z hz
                obtain ⟨z1, z2⟩ := bytesIn_spec hz
                have hln : ((cs.drop off).take n).length = n := by rw [List.length_take, List.length_drop]; omega
                refine conv_wp hT ho hH hd hs he hx h1 gx (by rw [z1, hln]) (fun β hβ j v hj => ?_) h
                obtain ⟨β', q1, q2⟩ := hH.box b _ hcs
                rw [hβ] at q1
                obtain rfl := Option.some.inj q1
                obtain ⟨us, e', q3, q4⟩ := q2.plain hc.1
                rw [cell_of_row w β (off + j) us e' (0, 0) q3, ← Array.getElem?_toList]
                rw [List.getElem?_map] at hj
                have hjl : j < z.length := by
                  rcases Nat.lt_or_ge j z.length with hh | hh
                  · exact hh
                  · rw [List.getElem?_eq_none hh] at hj; cases hj
                have hjn : j < n := by rw [← hln, ← z1]; exact hjl
                obtain ⟨m, e1, e2⟩ := z2 j _ (List.getElem?_eq_getElem (by rw [← z1]; exact hjl))
                rw [e2] at hj
                simp only [Option.map_some, Option.some.injEq] at hj
                have hcj : cs[off + j]? = some (.int .u8 m) := by
                  rw [← e1, List.getElem_take, List.getElem_drop, List.getElem?_eq_getElem]
                obtain ⟨u, hu, g⟩ := q4.get hcj
                rw [hu, ← hj]; exact congrArg some g
              · cases h
            · cases h
          · cases h
        · cases h
      · cases h
    · rw [← ho] at h; exact other h
  · rename_i f args tys ho
    split at h
    · rename_i g caps hf
      exact callS_wp hG ho rfl hH hf h hv
    · cases h
  · exact other h
end Go.Proofs.Ytnhogpbibcgpkaa.Xe
