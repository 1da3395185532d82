/- The executor: one operation. -/
import Derived.Test.YtnhogpbibcgpkaaXnc
namespace Go.Proofs.Ytnhogpbibcgpkaa.Xe
open Go Go.RowKit
set_option linter.unusedVariables false
set_option linter.unusedSimpArgs false
variable {P : Program} {R : Type} {w0 : World} {σ0 : Nat → Nat → Prop} {ρ : Env} {σ : Nat → Nat → Prop} {w : World} {r : R}
theorem sameTmp_eq {n c : Operand} (h : sameTmp n c = true) : n = c := by
  unfold sameTmp at h
  split at h
  · rw [beq_iff_eq.1 h]
  · cases h
/-- 'append' to a slice that has no room. -/
theorem emp_run {t ty e : TypeId} {i : TypeInfo} {z : Value} (ht : P.underlying t = some (.slice e)) (hi : P.info? e = some i) (hz : i.zero = some z) {u : Ty} (hsize : i.size = u.sz) {A : Option Addr} (hA : A = none ∨ ∃ β o, A = some ⟨β, o, none⟩) {m : List (El u)} {src : Value}
    (hm : RE σ w (.sl u) m [src]) (hσ : Fits σ w) (hbytes : m.length * i.bytes ≤ 140737488355328) (h63 : m.length ≤ maxLen) :
    ∃ v' w' σ', (Builtin.append_ #[t, t] ty #[.slice A 0 0, src]).run P w = .ok v' w' ∧ Grow σ w σ' w' ∧ RE σ' w' (.sl u) m [v'] := by
  have hsmall : m.length ≤ 9223372036854775807 := by simp only [maxLen] at h63; omega
  obtain ⟨B, c, e1, hmc, hB⟩ := row_at hm
  subst e1
  by_cases hm0 : m.length = 0
  · refine ⟨.slice A 0 0, w, σ, ?_, Grow.refl hσ, A, 0, by rw [hm0], by omega, ?_⟩
    · rw [hm0]
      cases B <;> rcases hA with rfl | ⟨β, o, rfl⟩ <;> simp [Builtin.append_, run_underlying ht, Go.sizeOf, typeInfo, hi, Builtin.lenOf, Builtin.firstCells, loadCells, loadCellsFrom, storeCells]
    · exact .inl (List.eq_nil_of_length_eq_zero hm0)
  · rcases hB with hm' | ⟨γ, go, ms, rfl, g1, g2⟩
    · exact absurd (by rw [hm']; rfl) hm0
    have hml : ms.length = m.length * i.size := by rw [g1.len, hsize]
    have hnews : ∀ j v, ms[j]? = some v → w.cell? ((⟨γ, go, none⟩ : Addr).add j) = some v := fun j v hv => by rw [addr_add]; exact (g2 j v hv).2
    have fin : ∀ w1 : World, w1 = w.drew → ∀ (cap : Nat) (cs : Array Value), m.length ≤ cap → (Builtin.append_ #[t, t] ty #[.slice A 0 0, .slice (some ⟨γ, go, none⟩) m.length c]).run P w = .ok (.slice (some ⟨w.heap.size, 0, none⟩) m.length cap) (w.drew.alloc (.cells cs e)) → cs.toList.take ms.length = ms →
        ∃ v' w' σ', (Builtin.append_ #[t, t] ty #[.slice A 0 0, .slice (some ⟨γ, go, none⟩) m.length c]).run P w = .ok v' w' ∧ Grow σ w σ' w' ∧ RE σ' w' (.sl u) m [v'] := fun w1 _ cap cs hcap hr htk => by
      have hle : ms.length ≤ cs.size := by
        have := congrArg List.length htk
        rw [List.length_take] at this
        have h2 : cs.toList.length = cs.size := by simp
        omega
      have hg0 : Grow σ w σ w.drew := ⟨⟨rfl, rfl, rfl, Nat.le_refl _, fun _ _ => rfl⟩, fun _ _ h => h, fun _ _ h => .inl h, hσ⟩
      have hσ1 : Fits σ w.drew := hσ
      obtain ⟨k1, k2⟩ := grow_alloc hσ1 cs e ms.length hle
      have hg : Grow σ w (fun b o => σ b o ∨ (b = w.drew.heap.size ∧ o < ms.length)) (w.drew.alloc (.cells cs e)) := ⟨hg0.below.trans k1.below, k1.sig, fun b o h => h.imp id fun h => by rw [h.1]; exact Nat.le_refl _, k1.lt⟩
      refine ⟨_, _, _, hr, hg, _, cap, rfl, hcap, .inr ⟨w.heap.size, 0, ms, rfl, RLs.mono (fun _ _ => RE.mono (hg.keeps hσ)) g1, ?_⟩⟩
      rw [htk] at k2
      exact k2
    rcases hA with rfl | ⟨β, o, rfl⟩
    · have hr := run_append_nil (P := P) w t ty e i z ht hi hz ⟨γ, go, none⟩ m.length c ms hml hnews (by omega) (by omega) (by omega)
      exact fin _ rfl _ _ (grownCap_ge _ _ _ _) hr (by simp)
    · have hr := run_append_grow (P := P) w t ty e i z ht hi hz ⟨β, o, none⟩ 0 0 [] (by simp) (fun j v hv => by simp at hv) ⟨γ, go, none⟩ m.length c ms hml hnews (by omega) (by omega) (growslice_fits (by omega) (by simpa using hbytes))
      simp only [Nat.zero_add] at hr
      exact fin _ rfl _ _ (grownCap_ge _ _ _ _) hr (by simp)
theorem xs_sound {C : Ctx} (hT : TabOk P C.T) (hG : CtxOk P C) {dr : Bool} {s : St} {K : AV → St → Option R} {o : Oper} {a : Act} {Q : Exit → Act → World → Prop}
    (hv : ∀ x ∈ o.op.operands.toList, RA ρ w0.heap.size σ w (ev s x) (a.eval x)) (hH : HR P w0 σ0 ρ σ (fun b => s.boxes[b]?) s.alive w) (h : xs C dr s o.op K = some r) : o.wp P a w (XOut P w0 σ0 ρ σ w K r s o a) Q := by
  have other : xa C (ev s) o.op (fun v => K v s) = some r → o.wp P a w (XOut P w0 σ0 ρ σ w K r s o a) Q := fun h' => xout_of_out hH (xa_sound hT hG.g hH.fits hv h')
  unfold xs at h
  split at h
  · rename_i e ho
    split at h
    · rename_i hk; exact alloc_wp hT ho hH hk h
    · cases h
  · rename_i e x ho
    split at h
    · rename_i hx; exact box_wp ho hH hx (hv x (by rw [ho]; simp [Op.operands])) h
    · cases h
  · rename_i t x ho
    exact xout_of_out hH (out_yields (by simp only [execOp, ho]) (load_yields hT hH (fun b cs _ _ hb => hb) h (hv x (by rw [ho]; simp [Op.operands]))) hH.fits)
  · rename_i t y x ho
    split at h
    · rename_i b i hy
      split at h
      · rename_i cs hb
        split at h
        · rename_i hc
          exact store_wp hT ho hH hy hb hc.1 hc.2.1 hc.2.2.1 hc.2.2.2.1 hc.2.2.2.2 (hv y (by rw [ho]; simp [Op.operands])) (hv x (by rw [ho]; simp [Op.operands])) h
        · cases h
      · cases h
    · rename_i b sz j hy
      split at h
      · rename_i u l hr
        split at h
        · rename_i hc
          split at h
          · rename_i z hz
            obtain ⟨l', hl', hk⟩ := Option.bind_eq_some_iff.1 h
            exact rowStore_wp hT ho hH hy (rowOf_some hr) hc.1 hc.2.1 hc.2.2.1 hc.2.2.2 hz hl' (hv y (by rw [ho]; simp [Op.operands])) (hv x (by rw [ho]; simp [Op.operands])) hk
          · cases h
        · cases h
      · cases h
    · cases h
  · rename_i t n parts ho
    cases dr with
    | true => exact xout_of_out hH (builtSlice_wp (K := fun v => K v s) hT ho (by simpa using h) (fun q hq => hv q.2 (by rw [ho]; exact List.mem_map.2 ⟨q, hq, rfl⟩)) hH.fits)
    | false =>
      obtain ⟨u, l, vs, e, hk, hr, h1, h2, h3, h4⟩ := built_sound (w := w) (base := w0.heap.size) (ρ := ρ) (σ := σ) hT h (fun q hq => hv q.2 (by rw [ho]; exact List.mem_map.2 ⟨q, hq, rfl⟩))
      simp only [Bool.false_eq_true, if_false] at hk
      have hn : n ≤ maxLen := by
        have : maxLen = 9223372036854775807 := rfl
        omega
      have hown := World.ownsRow_lit (base := w0.heap.size) (e := e) (size := u.sz) w vs n hH.size hn h3
      obtain ⟨ρ', σ', m1, m2, m3⟩ := hH.newOwn ((Below.refl _ w).alloc (Nat.le_refl _) _) hown h2 h1 (by simp)
      refine xout_run (nx := .value (.slice (some ⟨w.heap.size, 0, none⟩) n n)) (w' := w.alloc (.cells vs e)) ?_ (.inl rfl) hk rfl m3 m1 m2
      have hp : (parts.toList.map fun q => (q.1, a.eval q.2)).toArray = parts.map fun (i, x) => (i, a.eval x) := by apply Array.ext'; simp
      rw [hp] at hr
      simp [execOp, ho, hr]
  · rename_i t n c ho
    split at h
    · rename_i e hd
      split at h
      · rename_i u hu
        split at h
        · rename_i hc
          split at h
          · rename_i k m k' c' hn hcp
            split at h
            · rename_i hsame
              have hnc := sameTmp_eq hsame
              subst hnc
              rw [hn] at hcp
              simp only [AV.int.injEq] at hcp
              obtain ⟨rfl, rfl⟩ := hcp
              split at h
              · rename_i hz0
                split at h
                · rename_i z hz
                  split at h
                  · rename_i hb
                    have gn := hv n (by rw [ho]; simp [Op.operands])
                    rw [hn] at gn
                    have en : a.eval n = .int k m := gn
                    exact make_wp hT ho hH hd hc.1 hc.2.1 en en hz hz0.2 hb.1 hb.2 h
                  · cases h
                · cases h
              · cases h
            split at h
            · rename_i hz
              obtain ⟨c1, c2, c3⟩ := hc
              obtain ⟨z1, z2, z3, z4⟩ := hz
              obtain ⟨i1, zt, kt⟩ := known (P := P) hT (t := t) (by rw [hd]; exact fun e => by cases e)
              have hut := und_sl (kt.desc.trans hd)
              obtain ⟨i2, ze, ke⟩ := addr_pos (P := P) hT c1
              have gn := hv n (by rw [ho]; simp [Op.operands])
              have gc := hv c (by rw [ho]; simp [Op.operands])
              rw [hn] at gn; rw [hcp] at gc
              have en : a.eval n = .int k m := gn
              have ec : a.eval c = .int k' c' := gc
              obtain ⟨cn, hcn⟩ : ∃ cn : Nat, c' = (cn : Int) := ⟨c'.toNat, by omega⟩
              have hb1 : i2.bytes * cn ≤ 281474976710656 := by
                rw [ke.bytes]
                have : ((C.ti e).bytes : Int) * (cn : Int) ≤ 281474976710656 := by rw [← hcn]; exact z3
                have h2 : (((C.ti e).bytes * cn : Nat) : Int) ≤ 281474976710656 := by rw [Int.natCast_mul]; exact this
                omega
              have hb2 : cn ≤ maxLen := by have : maxLen = 9223372036854775807 := rfl; omega
              obtain ⟨w', r1, r2, r3⟩ := run_make_own (P := P) w w0.heap.size t e i2 ze u.sz hut ke.info ke.zero (by rw [ke.size, c2]) k k' cn hb1 hb2 hH.size
              have hbel : Below w.heap.size w w' := ⟨r3.os, r3.tape, r3.output, r3.size, fun j hj => r3.block j hj (by simp)⟩
              have hlt : w.heap.size < w'.heap.size := (r2.lt _ rfl).2
              obtain ⟨ρ', σ', m1, m2, m3⟩ := hH.newOwn (t := u) (l := []) hbel r2 rfl rfl hlt
              refine xout_run (nx := .value (.slice (some ⟨w.heap.size, 0, none⟩) 0 cn)) (w' := w') ?_ (.inl rfl) h rfl m3 m1 m2
              simp [execOp, ho, en, ec, hcn, z1, r1]
            · cases h
          · cases h
        · cases h
      · cases h
    · cases h
  · rename_i args argTypes ho
    split at h
    · rename_i base x t t' hargs htys
      split at h
      · rename_i e hd
        split at h
        · rename_i u hu
          split at h
          · rename_i hc
            obtain ⟨c0, c1, c2, c3, c4, c5⟩ := hc
            subst c0
            obtain ⟨i1, zt, kt⟩ := known (P := P) hT (t := t) (by rw [hd]; exact fun e => by cases e)
            have hut := und_sl (kt.desc.trans hd)
            obtain ⟨i2, ze, ke⟩ := addr_pos (P := P) hT c1
            have hargs' : args = #[base, x] := by apply Array.ext'; simpa using hargs
            have htys' : argTypes = #[t, t] := by apply Array.ext'; simpa using htys
            have gb := hv base (by rw [ho]; simp [Op.operands, Call.operands, hargs'])
            have gx := hv x (by rw [ho]; simp [Op.operands, Call.operands, hargs'])
            have hzs : ze.cells.size = u.sz := by rw [c3, ← c2, ke.cells]; simp
            -- the source
            have hsrc : ∀ m : List (El u), listOf u (ev s x) = some m → ∃ A c news, a.eval x = .slice A m.length c ∧ RLs (RE σ w u) m news ∧ ((A = none ∧ m.length = 0) ∨ ∃ ad, A = some ad ∧ ∀ j v, news[j]? = some v → w.cell? (ad.add j) = some v) := by
              intro m hm
              obtain ⟨A, c, e1, _, e3⟩ := row_at (listOf_sound hm gx)
              rcases e3 with rfl | ⟨β, off, cs, rfl, e4, e5⟩
              · cases A with
                | none => exact ⟨none, c, [], e1, rfl, .inl ⟨rfl, rfl⟩⟩
                | some A => exact ⟨some A, c, [], e1, rfl, .inr ⟨A, rfl, fun j v hj => by simp at hj⟩⟩
              · exact ⟨_, c, cs, e1, e4, .inr ⟨_, rfl, fun j v hj => by rw [addr_add]; exact (e5 j v hj).2⟩⟩
            have fin : ∀ (old : Option Nat) (v : Value) (l m z : List (El u)) (ty : TypeId) (cs : List Value), a.eval base = v → listOf u (ev s x) = some m → lcat (C.ti e).bytes l m = some z →
                ((old = none ∧ v.ownBlock = none) ∨ ∃ i, old = some i ∧ ρ.own i = some v.ownBlock) → (∀ β, v.ownBlock = some β → ∀ o, σ β o → o < l.length * u.sz) → w.ownsRow w0.heap.size ty u.sz v l.length cs → RLs (RE σ w u) l cs →
                K (.sl (some (letFall s.alive old).length) u z) { s with alive := letFall s.alive old ++ [true] } = some r → o.wp P a w (XOut P w0 σ0 ρ σ w K r s o a) Q := by
              intro old v l m z ty cs ev1 hm hz hold hlow hown hrl hk
              unfold lcat at hz
              split at hz
              · rename_i hle
                obtain rfl := Option.some.inj hz
                obtain ⟨A, c, news, e1, e2, e3⟩ := hsrc m hm
                have hb1 : (l.length + m.length) * i2.bytes ≤ 140737488355328 := by rw [ke.bytes]; omega
                have h63 : l.length + m.length ≤ maxLen := by
                  have h1 : maxLen = 9223372036854775807 := rfl
                  have h2 : (l.length + m.length) * 1 ≤ (l.length + m.length) * (C.ti e).bytes := Nat.mul_le_mul_left _ c5
                  omega
                obtain ⟨v', w', e9, r1, r2, r3, r4⟩ := app_run (ty := o.type) hut ke.info ke.zero (by rw [ke.size, c3]) hzs (by rw [c3]; exact c4) hown e1 e3 e2.len (RLs.one e2) hb1 h63 hH.size
                obtain ⟨ρ', σ', m1, m2, m3⟩ := hH.app hold hlow hown hrl e2 r2 r3 r4
                refine xout_run (nx := .value v') (w' := w') ?_ (.inl rfl) hk rfl m3 m1 m2
                subst ev1
                simp [execOp, ho, resolve, hargs', htys', invoke, builtin, r1]
              · cases hz
            split at h
            · rename_i m t0 hm hb
              obtain ⟨z, hz, hk⟩ := Option.bind_eq_some_iff.1 h
              rw [hb] at gb
              obtain ⟨A, eb, hA⟩ := gb
              unfold lcat at hz
              split at hz
              · rename_i hle
                obtain rfl := Option.some.inj hz
                rw [List.length_nil, Nat.zero_add] at hle
                have h63 : m.length ≤ maxLen := by
                  have h1 : maxLen = 9223372036854775807 := rfl
                  have h2 : m.length * 1 ≤ m.length * (C.ti e).bytes := Nat.mul_le_mul_left _ c5
                  omega
                obtain ⟨v', w', σ', r1, r2, r3⟩ := emp_run (P := P) (ty := o.type) hut ke.info ke.zero (by rw [ke.size, c3]) hA (listOf_sound hm gx) hH.fits (by rw [ke.bytes]; omega) h63
                refine xout_run (nx := .value v') (w' := w') ?_ (.inl rfl) hk rfl ⟨r3, fun i e => by cases e⟩ (hH.mono r2) (hH.grow r2)
                rw [← eb] at r1
                simp [execOp, ho, resolve, hargs', htys', invoke, builtin, r1]
              · cases hz
            · rename_i m hm hb
              obtain ⟨z, hz, hk⟩ := Option.bind_eq_some_iff.1 h
              rw [hb] at gb
              have eb : a.eval base = .slice none 0 0 := gb
              exact fin none _ [] m z e [] eb hm hz (.inl ⟨rfl, rfl⟩) (fun β e => by cases e) (World.ownsRow_nil w _ e u.sz) rfl hk
            · rename_i m i u' l hm hb
              split at h
              · obtain rfl : u' = u := by assumption
                have hal : s.alive[i]? = some true := by assumption
                obtain ⟨z, hz, hk⟩ := Option.bind_eq_some_iff.1 h
                rw [hb] at gb
                obtain ⟨g1, g2⟩ := gb
                obtain ⟨ow, how⟩ := hH.alive i hal
                obtain ⟨g3, ty, cs, g4, g5, g6⟩ := (g2 i rfl).2 ow how
                refine fin (some i) _ l m z ty cs rfl hm hz (.inr ⟨i, rfl, by rw [g3]; exact how⟩) (fun β eb o hs => (g6 β (by rw [← g3]; exact eb) o).1 hs) g4 g5 ?_
                simpa [letFall] using hk
              · cases h
            · cases h
          · cases h
        · cases h
      · cases h
    · cases h
  · rename_i t ho
    split at h
    · rename_i k e hd
      split at h
      · rename_i u hu
        split at h
        · rename_i hc
          have hmt := mapTy (P := P) hT hu hc.1 hc.2.1
          obtain ⟨h1, h2⟩ := hH.newObj (b0 := s.boxes.length) (cs := [.keys k e u []]) (by simp) (.map #[] 0) fun _ _ => .map k e u [] rfl (Keyed.made hmt w)
          refine xout_run (nx := .value (.map (some w.heap.size))) (w' := w.alloc (.map #[] 0)) ?_ (.inl rfl) h rfl ⟨w.heap.size, ?_, rfl⟩ h1 (h2.congr (boxes_push _ _))
          · simp [execOp, ho, Instr.makeMap, newObj]
            rfl
          · show (if s.boxes.length = s.boxes.length then _ else _) = _
            rw [if_pos rfl]
        · cases h
      · cases h
    · cases h
  · rename_i t m x ho
    split at h
    · rename_i k e b hd hm
      split at h
      · rename_i k' e' u l hb
        split at h
        · rename_i hc
          obtain ⟨rfl, rfl, _⟩ := hc
          obtain ⟨it, zt, kt⟩ := known (P := P) hT (t := t) (by rw [hd]; exact fun e => by cases e)
          have hut := und_map (kt.desc.trans hd)
          obtain ⟨β, h1, hbx⟩ := hH.box b _ hb
          have gm := hv m (by rw [ho]; simp [Op.operands])
          have gx := hv x (by rw [ho]; simp [Op.operands])
          rw [hm] at gm
          obtain ⟨β', h1', em⟩ := gm
          rw [h1] at h1'
          obtain rfl := Option.some.inj h1'
          obtain ⟨av, c, q1, q2, q3⟩ := keyIn_sound h gx hbx.keys hut
          refine xout_run (nx := .value (.bool c)) (w' := w) ?_ (.inl rfl) q1 rfl q3 Mono.refl hH
          simp only [execOp, ho, em, Sem.run_bind, q2, Result.andThen_ok, Sem.run_pure]
        · cases h
      · cases h
    · cases h
  · rename_i t m x ho
    split at h
    · rename_i k e b hd hm
      split at h
      · rename_i k' e' u l hb
        split at h
        · rename_i hc
          obtain ⟨rfl, rfl, _⟩ := hc
          obtain ⟨it, zt, kt⟩ := known (P := P) hT (t := t) (by rw [hd]; exact fun e => by cases e)
          have hut := und_map (kt.desc.trans hd)
          obtain ⟨β, h1, hbx⟩ := hH.box b _ hb
          have gm := hv m (by rw [ho]; simp [Op.operands])
          have gx := hv x (by rw [ho]; simp [Op.operands])
          rw [hm] at gm
          obtain ⟨β', h1', em⟩ := gm
          rw [h1] at h1'
          obtain rfl := Option.some.inj h1'
          obtain ⟨l', w', q1, q2, q3, q4⟩ := keyAdd_sound h gx hbx.keys hut
          obtain ⟨m1, m2⟩ := hH.turn h1 q4 (cs := [.keys k e u l']) fun _ => .map k e u l' rfl q3
          have hb' : b < s.boxes.length := (List.getElem?_eq_some_iff.1 hb).1
          refine xout_run (nx := .skip) (v := undef) (w' := w') ?_ (.inr ⟨rfl, rfl⟩) q1 rfl ⟨#[], rfl, rfl⟩ m1 (m2.congr (boxes_set _ hb' _))
          have e2 : a.eval (.const (.bool true)) = .bool true := rfl
          simp only [execOp, ho, em, e2, Sem.run_bind, q2, Result.andThen_ok, Sem.run_pure]
        · cases h
      · cases h
    · cases h
  · rename_i t x ho
    split at h
    · rename_i z hd hx
      split at h
      · rename_i hdr
        obtain ⟨it, zt, kt⟩ := known (P := P) hT (t := t) (by rw [hd]; exact fun e => by cases e)
        have hut := und_str (kt.desc.trans hd)
        have gx := hv x (by rw [ho]; simp [Op.operands])
        rw [hx] at gx
        have ex : a.eval x = .string z := gx
        obtain ⟨h1, h2⟩ := hH.newObj (b0 := s.boxes.length) (cs := [.itr z 0]) (by simp) (.stringIter z 0) fun _ _ => .iter z 0 rfl (heap_alloc_new w _)
        refine xout_run (nx := .value (.pointer (some ⟨w.heap.size, 0, none⟩))) (w' := w.alloc (.stringIter z 0)) ?_ (.inl rfl) h rfl ⟨w.heap.size, ?_, rfl⟩ h1 (h2.congr (boxes_push _ _))
        · simp [execOp, ho, ex, Instr.range, run_underlying hut, newObj]
          rfl
        · show (if s.boxes.length = s.boxes.length then _ else _) = _
          rw [if_pos rfl]
      · cases h
    · cases h
  · rename_i x ho
    split at h
    · rename_i b hx
      split at h
      · rename_i z pos hb
        split at h
        · rename_i hdr
          obtain ⟨β, h1, hbx⟩ := hH.box b _ hb
          have hit := hbx.itr
          have gx := hv x (by rw [ho]; simp [Op.operands])
          rw [hx] at gx
          obtain ⟨β', h1', ex⟩ := gx
          rw [h1] at h1'
          obtain rfl := Option.some.inj h1'
          have hb' : b < s.boxes.length := (List.getElem?_eq_some_iff.1 hb).1
          split at h
          · rename_i hp
            have hg : w.grownBy (turnTo w β (.stringIter z (pos + (Utf8.decode z pos).2))) (some β) := ⟨rfl, rfl, rfl, by simp [turnTo], fun i _ hi => turnTo_other (fun e => hi (by rw [e]))⟩
            obtain ⟨m1, m2⟩ := hH.turn h1 hg (cs := [.itr z (pos + (Utf8.decode z pos).2)]) fun _ => .iter z _ rfl (turnTo_same hit)
            refine xout_run (nx := .value (.tuple #[.bool true, .int .i64 pos, .int .i32 (Utf8.decode z pos).1])) (w' := turnTo w β (.stringIter z (pos + (Utf8.decode z pos).2))) ?_ (.inl rfl) h rfl ⟨_, rfl, ⟨_, _, rfl, rfl, ⟨_, _, rfl, rfl, ⟨_, _, rfl, rfl, rfl⟩⟩⟩⟩ m1 (m2.congr (boxes_set _ hb' _))
            simp [execOp, ho, ex, Instr.next, getObj, setObj, Sem.run, hit, hp, goInt, turnTo]
          · rename_i hp
            refine xout_run (nx := .value (.tuple #[.bool false])) (w' := w) ?_ (.inl rfl) h rfl ⟨_, rfl, ⟨_, _, rfl, rfl, rfl⟩⟩ Mono.refl hH
            simp [execOp, ho, ex, Instr.next, getObj, Sem.run, hit, hp]
        · cases h
      · cases h
    · cases h
  · rename_i args argTypes ho
    split at h
    · rename_i x y t t' hargs htys
      have hargs' : args = #[x, y] := by apply Array.ext'; simpa using hargs
      have htys' : argTypes = #[t, t'] := by apply Array.ext'; simpa using htys
      subst hargs'
      subst htys'
      have gx := hv x (by rw [ho]; simp [Op.operands, Call.operands])
      have gy := hv y (by rw [ho]; simp [Op.operands, Call.operands])
      split at h
      · rename_i e b sz off n hd hx
        split at h
        · rename_i hc
          split at h
          · rename_i u l hr
            split at h
            · rename_i hs
              split at h
              · rename_i m hm
                obtain ⟨l', hl', hk⟩ := Option.bind_eq_some_iff.1 h
                exact copyRow_wp hT ho hH hd hx hc.1 hc.2 (rowOf_some hr) hs hm hl' gx gy hk
              · cases h
            · cases h
          · split at h
            · rename_i hs
              split at h
              · rename_i z cs hy hb
                split at h
                · rename_i hp
                  split at h
                  · rename_i c hcc
                    exact copyStr_wp hT ho hH hd hx hc.1 hc.2 hs.1 hy hb hp.1 hp.2 hcc gx gy h
                  · cases h
                · cases h
              · cases h
            · cases h
        · cases h
      · cases h
    · cases h
  · split at h
    · exact other h
    · exact xm_sound hT hG hv hH h
end Go.Proofs.Ytnhogpbibcgpkaa.Xe
