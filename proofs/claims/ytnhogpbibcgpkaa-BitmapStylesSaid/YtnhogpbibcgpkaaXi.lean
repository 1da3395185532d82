/- The executor: all operations that read their operands alone, together. -/
import Derived.Test.YtnhogpbibcgpkaaXh
namespace Go.Proofs.Ytnhogpbibcgpkaa.Xe
open Go Go.RowKit
set_option linter.unusedVariables false
set_option linter.unusedSimpArgs false
variable {P : Program} {R : Type} {ρ : Env} {base : Nat} {σ : Nat → Nat → Prop} {w : World} {r : R} {K : AV → Option R}
theorem maps_ra {ρv : Operand → AV} {a : Act} : ∀ {l : List Operand}, (∀ x ∈ l, RA ρ base σ w (ρv x) (a.eval x)) → RAs ρ base σ w (l.map ρv) (l.map a.eval)
  | [], _ => rfl
  | x :: l, h => ⟨_, _, rfl, h x (List.mem_cons_self ..), maps_ra fun y hy => h y (List.mem_cons_of_mem _ hy)⟩
/-- The row of a slice that has elements. -/
theorem row_at {t : Ty} {l : List (El t)} {v : Value} (h : RE σ w (.sl t) l [v]) : ∃ A cap, v = .slice A l.length cap ∧ l.length ≤ cap ∧ (l = [] ∨ ∃ β off cs, A = some ⟨β, off, none⟩ ∧ RLs (RE σ w t) l cs ∧ Cs σ w β off cs) := by
  obtain ⟨A, c, e, h1, h2⟩ := h
  simp only [List.cons.injEq, and_true] at e
  exact ⟨A, c, e, h1, h2⟩
theorem RLs.take' {t : Ty} : ∀ {l : List (El t)} {cs : List Value} (n : Nat), RLs (RE σ w t) l cs → RLs (RE σ w t) (l.take n) (cs.take (n * t.sz))
  | [], cs, n, h => by rw [show cs = [] from h]; simp [RLs]
  | x :: l, cs, 0, h => by simp [RLs]
  | x :: l, cs, n + 1, ⟨a, b, e, g, k⟩ => by
    refine ⟨a, b.take (n * t.sz), ?_, g, RLs.take' n k⟩
    rw [e, List.take_append, g.len, List.take_of_length_le (by rw [g.len, Nat.add_mul]; omega)]
    congr 1
    rw [Nat.add_mul, Nat.one_mul, Nat.add_sub_cancel]
theorem RLs.drop' {t : Ty} : ∀ {l : List (El t)} {cs : List Value} (n : Nat), RLs (RE σ w t) l cs → RLs (RE σ w t) (l.drop n) (cs.drop (n * t.sz))
  | [], cs, n, h => by rw [show cs = [] from h]; simp [RLs]
  | x :: l, cs, 0, h => by simpa using h
  | x :: l, cs, n + 1, ⟨a, b, e, g, k⟩ => by
    have e1 : a.drop ((n + 1) * t.sz) = [] := List.drop_eq_nil_of_le (by rw [g.len, Nat.add_mul]; omega)
    have e2 : (n + 1) * t.sz - t.sz = n * t.sz := by rw [Nat.add_mul, Nat.one_mul, Nat.add_sub_cancel]
    rw [e, List.drop_append, g.len, e1, List.nil_append, e2]
    exact RLs.drop' n k
theorem Cs.take {β off : Nat} {cs : List Value} (h : Cs σ w β off cs) (n : Nat) : Cs σ w β off (cs.take n) := fun j v hv => h j v (by
  rw [List.getElem?_take] at hv
  split at hv
  · exact hv
  · cases hv)
theorem Cs.drop {β off : Nat} {cs : List Value} (h : Cs σ w β off cs) (n : Nat) : Cs σ w β (off + n) (cs.drop n) := fun j v hv => by
  rw [List.getElem?_drop] at hv
  have := h _ _ hv
  rw [Nat.add_assoc]; exact this
theorem addr_add (β off n : Nat) : Addr.add ⟨β, off, none⟩ n = ⟨β, off + n, none⟩ := Addr.add_lit ..
/-- A piece of a slice. -/
theorem lsub_sound {t : Ty} {l z : List (El t)} {lo hi : Int} {A : Option Addr} {cap : Nat} (h : lsub l lo hi = some z) (hl : l.length ≤ cap) (g : l = [] ∨ ∃ β off cs, A = some ⟨β, off, none⟩ ∧ RLs (RE σ w t) l cs ∧ Cs σ w β off cs) :
    (0 ≤ lo ∧ lo ≤ hi ∧ hi ≤ (l.length : Int)) ∧ z = (l.take hi.toNat).drop lo.toNat ∧
    RA ρ base σ w (.sl none t z) (.slice (if cap = lo.toNat then A else A.map (·.add (lo.toNat * t.sz))) (hi.toNat - lo.toNat) (cap - lo.toNat)) := by
  unfold lsub at h
  split at h
  · rename_i hc
    obtain rfl := Option.some.inj h
    refine ⟨hc, rfl, ?_, fun i e => by cases e⟩
    have hlen : ((l.take hi.toNat).drop lo.toNat).length = hi.toNat - lo.toNat := by rw [List.length_drop, List.length_take]; omega
    refine ⟨_, _, by rw [hlen], by rw [hlen]; omega, ?_⟩
    rcases g with e1 | ⟨β, off, cs, e1, e2, e3⟩
    · subst e1
      exact .inl (by simp)
    · subst e1
      have k1 := (e2.take' hi.toNat).drop' lo.toNat
      have k2 := (e3.take (hi.toNat * t.sz)).drop (lo.toNat * t.sz)
      by_cases hcap : cap = lo.toNat
      · refine .inr ⟨β, off, [], by rw [if_pos hcap], ?_, fun j v hv => by simp at hv⟩
        have : (l.take hi.toNat).drop lo.toNat = [] := List.eq_nil_of_length_eq_zero (by rw [hlen]; omega)
        rw [this]; rfl
      · exact .inr ⟨β, off + lo.toNat * t.sz, _, by rw [if_neg hcap]; simp [addr_add], k1, k2⟩
  · cases h
theorem orInt_sound {d : Int} {x : Option AV} {vx : Option Value} {L : Int → Option R} (h : orInt d x L = some r) (hx : ∀ a, x = some a → ∃ v, vx = some v ∧ RA ρ base σ w a v) (hn : x = none → vx = none) :
    ∃ n, L n = some r ∧ ((vx = none ∧ n = d) ∨ ∃ k, vx = some (.int k n)) := by
  cases x with
  | none => exact ⟨d, h, .inl ⟨hn rfl, rfl⟩⟩
  | some a =>
    obtain ⟨v, hv, g⟩ := hx a rfl
    obtain ⟨k, n, e, hL⟩ := asInt_sound h g
    exact ⟨n, hL, .inr ⟨k, by rw [hv, e]⟩⟩
theorem bounds_run {isSlice : Bool} {len cap : Nat} {lo hi : Int} {vlo vhi : Option Value} (h0 : 0 ≤ lo) (h1 : lo ≤ hi) (h2 : hi ≤ (len : Int)) (h3 : len ≤ cap)
    (hl : (vlo = none ∧ lo = 0) ∨ ∃ k, vlo = some (.int k lo)) (hh : (vhi = none ∧ hi = (len : Int)) ∨ ∃ k, vhi = some (.int k hi)) :
    (Instr.sliceBounds isSlice len cap vlo vhi none).run P w = .ok (lo.toNat, hi.toNat, cap) w := by
  have hb : ∀ (k : IntKind) (i : Int) (y : Nat) (code : BoundsCode), 0 ≤ i → i ≤ (y : Int) → (Instr.sliceBound (.int k i) y code).run P w = .ok i.toNat w := fun k i y code a b => by
    simp [Instr.sliceBound, asIntOf, a, b]
  rcases hh with ⟨rfl, rfl⟩ | ⟨k, rfl⟩
  · rcases hl with ⟨rfl, rfl⟩ | ⟨k', rfl⟩
    · simp [Instr.sliceBounds]
    · have := hb k' lo len .sliceB h0 (by omega)
      simp [Instr.sliceBounds, this]
  · have e1 : ∀ code, (Instr.sliceBound (.int k hi) cap code).run P w = .ok hi.toNat w := fun code => hb k hi cap code (by omega) (by omega)
    rcases hl with ⟨rfl, rfl⟩ | ⟨k', rfl⟩
    · simp [Instr.sliceBounds, e1]
    · have e2 := hb k' lo hi.toNat .sliceB h0 (by omega)
      simp [Instr.sliceBounds, e1, e2]
theorem sliceAt_slice {t e : TypeId} (hu : P.underlying t = some (.slice e)) (x : Value) (lo hi mx : Option Value) : Instr.sliceAt t x lo hi mx = (do match ← underlying t with | .array n elem => (do let a ← Instr.sureAddr x; let (l, h, m) ← Instr.sliceBounds false n n lo hi mx; let size ← Go.sizeOf elem; pure (.slice (some (if m = l then a else a.add (l * size))) (h - l) (m - l))) | _ => Instr.slice t x lo hi mx) := rfl
theorem slice_yields {C : Ctx} (hT : TabOk P C.T) {t : TypeId} {x : Operand} {lo hi mx : Option Operand} {ρv : Operand → AV} {a : Act} (h : xa C ρv (.slice t x lo hi mx) K = some r)
    (hv : ∀ y ∈ (Op.slice t x lo hi mx).operands.toList, RA ρ base σ w (ρv y) (a.eval y)) : Yields P ρ base σ w K r (Instr.sliceAt t (a.eval x) (lo.map a.eval) (hi.map a.eval) (mx.map a.eval)) := by
  have gx := hv x (by simp [Op.operands])
  have glo : ∀ b, lo.map ρv = some b → ∃ v, lo.map a.eval = some v ∧ RA ρ base σ w b v := fun b e => by
    obtain ⟨y, hy, rfl⟩ := Option.map_eq_some_iff.1 e
    exact ⟨_, by rw [hy]; rfl, hv y (by simp [Op.operands, hy])⟩
  have ghi : ∀ b, hi.map ρv = some b → ∃ v, hi.map a.eval = some v ∧ RA ρ base σ w b v := fun b e => by
    obtain ⟨y, hy, rfl⟩ := Option.map_eq_some_iff.1 e
    exact ⟨_, by rw [hy]; rfl, hv y (by simp [Op.operands, hy])⟩
  cases mx with
  | some m => simp [xa] at h
  | none =>
    simp only [xa] at h
    split at h
    · rename_i s hd hx
      rw [hx] at gx
      have ex : a.eval x = .string s := gx
      obtain ⟨i, z, kn⟩ := known (P := P) hT (t := t) (by rw [hd]; exact fun e => by cases e)
      have hu := und_str (kn.desc.trans hd)
      obtain ⟨nl, h1, hl⟩ := orInt_sound h glo (fun e => by cases lo <;> simp_all)
      obtain ⟨nh, h2, hh⟩ := orInt_sound h1 ghi (fun e => by cases hi <;> simp_all)
      obtain ⟨s', hs', hk⟩ := Option.bind_eq_some_iff.1 h2
      unfold ssub at hs'
      split at hs'
      · rename_i hc
        obtain rfl := Option.some.inj hs'
        refine yields_of ?_ hk rfl
        have hb := bounds_run (P := P) (w := w) (isSlice := false) hc.1 hc.2.1 hc.2.2 (Nat.le_refl s.size) hl hh
        rw [ex]
        simp [Instr.sliceAt, Instr.slice, run_underlying hu, hb]
      · cases hs'
    · rename_i e o u l hd hx
      split at h
      · rename_i hsz
        rw [hx] at gx
        obtain ⟨A, cap, ex, hlc, hrow⟩ := row_at gx.1
        obtain ⟨i, z, kn⟩ := known (P := P) hT (t := t) (by rw [hd]; exact fun e => by cases e)
        have hu := und_sl (kn.desc.trans hd)
        obtain ⟨nl, h1, hl⟩ := orInt_sound h glo (fun e => by cases lo <;> simp_all)
        obtain ⟨nh, h2, hh⟩ := orInt_sound h1 ghi (fun e => by cases hi <;> simp_all)
        obtain ⟨z', hz', hk⟩ := Option.bind_eq_some_iff.1 h2
        obtain ⟨hc, -, g⟩ := lsub_sound (ρ := ρ) (base := base) hz' hlc hrow
        have hb := bounds_run (P := P) (w := w) (isSlice := true) hc.1 hc.2.1 hc.2.2 hlc hl hh
        refine yields_of ?_ hk g
        rw [ex]
        obtain ⟨ie, ze, ke⟩ := known (P := P) hT (fun e => by rw [e] at hsz; cases hsz.1)
        have hs := ke.sizeOf w
        simp [Instr.sliceAt, Instr.slice, run_underlying hu, hb, hs, hsz.2]
      · cases h
    · rename_i e b sz off n hd hx
      split at h
      · rename_i hsz
        rw [hx] at gx
        obtain ⟨A, cap, ex, hnc, hA⟩ := gx
        obtain ⟨i, z, kn⟩ := known (P := P) hT (t := t) (by rw [hd]; exact fun e => by cases e)
        have hu := und_sl (kn.desc.trans hd)
        obtain ⟨nl, h1, hl⟩ := orInt_sound h glo (fun e => by cases lo <;> simp_all)
        obtain ⟨nh, h2, hh⟩ := orInt_sound h1 ghi (fun e => by cases hi <;> simp_all)
        split at h2
        · rename_i hc
          have hb := bounds_run (P := P) (w := w) (isSlice := true) hc.1 hc.2.1 hc.2.2 hnc hl hh
          obtain ⟨ie, ze, ke⟩ := known (P := P) hT (fun e => by rw [e] at hsz; cases hsz.1)
          have hs := ke.sizeOf w
          refine yields_of (v := .slice (if cap = nl.toNat then A else A.map (·.add (nl.toNat * (C.ti e).size))) (nh.toNat - nl.toNat) (cap - nl.toNat)) ?_ h2 ⟨_, _, rfl, by omega, ?_⟩
          · rw [ex]
            simp [Instr.sliceAt, Instr.slice, run_underlying hu, hb, hs]
          · rcases hA with ⟨rfl, rfl⟩ | ⟨β, o, rfl, hA⟩
            · left
              refine ⟨by split <;> rfl, by omega⟩
            · right
              by_cases hcap : cap = nl.toNat
              · exact ⟨β, o, by rw [if_pos hcap], .inl (by omega)⟩
              · refine ⟨β, o + nl.toNat * (C.ti e).size, by rw [if_neg hcap]; simp [addr_add], ?_⟩
                rcases hA with hA | ⟨hA1, hA2⟩
                · left; omega
                · right
                  exact ⟨hA1, by rw [hA2, Nat.add_mul, hsz.2]⟩
        · cases h2
      · cases h
    · rename_i n e b hd hx
      split at h
      · split at h
        · rename_i hc
          rw [hx] at gx
          obtain ⟨β, e1, e2⟩ := gx
          obtain ⟨i, z, kn⟩ := known (P := P) hT (t := t) (by rw [hd]; exact fun e => by cases e)
          have hu := und_arr (kn.desc.trans hd)
          obtain ⟨ie, ze, ke⟩ := known (P := P) hT (fun e => by rw [e] at hc; cases hc.1)
          have hs := ke.sizeOf w
          refine yields_of (v := .slice (some ⟨β, 0, none⟩) n n) ?_ h ⟨_, n, rfl, Nat.le_refl _, .inr ⟨β, 0, rfl, .inr ⟨e1, by simp⟩⟩⟩
          rw [e2]
          have hn0 : n ≠ 0 := by omega
          simp [Instr.sliceAt, Instr.sliceBounds, run_underlying hu, Instr.sureAddr, hs, hn0, addr_add]
        · cases h
      · cases h
    · cases h
theorem addr_pos {C : Ctx} (hT : TabOk P C.T) {t : TypeId} (h : (C.ti t).d.known = true) : ∃ i z, Known P t (C.ti t) i z := known hT (fun e => by rw [e] at h; cases h)
theorem fieldAddr_yields {C : Ctx} (hT : TabOk P C.T) {t : TypeId} {x : Operand} {f : Nat} {ρv : Operand → AV} {a : Act} (h : xa C ρv (.fieldAddr t x f) K = some r) (gx : RA ρ base σ w (ρv x) (a.eval x)) :
    Yields P ρ base σ w K r (Instr.fieldAt t (a.eval x) f) := by
  simp only [xa] at h
  split at h
  · rename_i fs hd
    obtain ⟨i, z, kn⟩ := known (P := P) hT (t := t) (by rw [hd]; exact fun e => by cases e)
    obtain ⟨F, hu, hF⟩ := und_st (kn.desc.trans hd)
    split at h
    · rename_i q hq
      split at h
      · cases h
      · rename_i hc
        have hk : (C.ti q.1).d.known = true := by cases hh : (C.ti q.1).d.known <;> simp_all
        have hz : (C.ti q.1).size ≠ 0 := fun e => hc (.inr e)
        obtain ⟨i', z', kn'⟩ := addr_pos (P := P) hT hk
        have hs := kn'.sizeOf w
        rw [← hF, List.getElem?_map] at hq
        obtain ⟨fd, hfd, rfl⟩ := Option.map_eq_some_iff.1 hq
        rw [Array.getElem?_toList] at hfd
        have run : ∀ (β o : Nat), (Instr.fieldAt t (.pointer (some ⟨β, o, none⟩)) f).run P w = .ok (.pointer (some ⟨β, o + fd.offset, none⟩)) w := fun β o => by
          simp [Instr.fieldAt, run_underlying hu, hfd, Instr.sureAddr, fieldPlace, hs, hz, addr_add]
        split at h
        · rename_i b j hx
          rw [hx] at gx
          obtain ⟨β, e1, e2⟩ := gx
          rw [e2]
          exact yields_of (run β j) h ⟨β, e1, rfl⟩
        · rename_i u y j hx
          rw [hx] at gx
          obtain ⟨β, o, vs, e1, e2, e3⟩ := gx
          rw [e1]
          exact yields_of (run β _) h ⟨β, o, vs, by rw [Nat.add_assoc], e2, e3⟩
        · cases h
    · cases h
  · cases h
theorem indexAddr_yields {C : Ctx} (hT : TabOk P C.T) {t : TypeId} {x i : Operand} {ρv : Operand → AV} {a : Act} (h : xa C ρv (.indexAddr t x i) K = some r) (gx : RA ρ base σ w (ρv x) (a.eval x)) (gi : RA ρ base σ w (ρv i) (a.eval i)) :
    Yields P ρ base σ w K r (Instr.indexAt t (a.eval x) (a.eval i)) := by
  simp only [xa] at h
  split at h
  · rename_i n e b j hd hx
    split at h
    · cases h
    · rename_i hk
      have hk : (C.ti e).d.known = true := by cases hh : (C.ti e).d.known <;> simp_all
      obtain ⟨i1, z1, kn⟩ := known (P := P) hT (t := t) (by rw [hd]; exact fun e => by cases e)
      have hu := und_arr (kn.desc.trans hd)
      obtain ⟨i2, z2, ke⟩ := addr_pos (P := P) hT hk
      have hs := ke.sizeOf w
      obtain ⟨k, n', ei, h⟩ := asInt_sound h gi
      obtain ⟨m, em, -, hm, h⟩ := pickAt_sound h
      rw [hx] at gx
      obtain ⟨β, e1, e2⟩ := gx
      rw [e2, ei, em]
      have hlt : (m : Int) < (n : Int) := by omega
      exact yields_of (v := .pointer (some ⟨β, j + m * (C.ti e).size, none⟩)) (by simp [Instr.indexAt, run_underlying hu, asIntOf, Instr.sureAddr, hs, hlt, addr_add]; omega) h ⟨β, e1, rfl⟩
  · rename_i n e u y j hd hx
    split at h
    · cases h
    · rename_i hk
      have hk : (C.ti e).d.known = true := by cases hh : (C.ti e).d.known <;> simp_all
      obtain ⟨i1, z1, kn⟩ := known (P := P) hT (t := t) (by rw [hd]; exact fun e => by cases e)
      have hu := und_arr (kn.desc.trans hd)
      obtain ⟨i2, z2, ke⟩ := addr_pos (P := P) hT hk
      have hs := ke.sizeOf w
      obtain ⟨k, n', ei, h⟩ := asInt_sound h gi
      obtain ⟨m, em, -, hm, h⟩ := pickAt_sound h
      rw [hx] at gx
      obtain ⟨β, o, vs, e1, e2, e3⟩ := gx
      rw [e1, ei, em]
      have hlt : (m : Int) < (n : Int) := by omega
      exact yields_of (v := .pointer (some ⟨β, o + j + m * (C.ti e).size, none⟩)) (by simp [Instr.indexAt, run_underlying hu, asIntOf, Instr.sureAddr, hs, hlt, addr_add]; omega) h ⟨β, o, vs, by rw [Nat.add_assoc], e2, e3⟩
  · rename_i e o u l hd hx
    split at h
    · rename_i hc
      obtain ⟨i1, z1, kn⟩ := known (P := P) hT (t := t) (by rw [hd]; exact fun e => by cases e)
      have hu := und_sl (kn.desc.trans hd)
      obtain ⟨i2, z2, ke⟩ := addr_pos (P := P) hT hc.1
      have hs := ke.sizeOf w
      obtain ⟨k, n', ei, h⟩ := asInt_sound h gi
      obtain ⟨y, hy, h⟩ := Option.bind_eq_some_iff.1 h
      unfold lget at hy
      split at hy
      · rename_i h0
        rw [hx] at gx
        obtain ⟨A, cap, ex, hlc, hrow⟩ := row_at gx.1
        have hlt : n'.toNat < l.length := (List.getElem?_eq_some_iff.1 hy).1
        rcases hrow with rfl | ⟨β, off, cs, rfl, h2, h3⟩
        · simp at hlt
        · obtain ⟨pa, pu, pb, e1, e2, e3⟩ := h2.get hy
          rw [e1] at h3
          have h4 := h3.part
          rw [ex, ei]
          refine yields_of (v := .pointer (some ⟨β, off + n'.toNat * (C.ti e).size, none⟩)) ?_ h ⟨β, off + pa.length, pu, by rw [e2, hc.2]; rfl, e3, h4⟩
          have : n' < (l.length : Int) := by omega
          simp [Instr.indexAt, run_underlying hu, asIntOf, hs, h0, this, addr_add]
      · cases hy
    · cases h
  · rename_i e b sz off n hd hx
    split at h
    · rename_i hc
      obtain ⟨i1, z1, kn⟩ := known (P := P) hT (t := t) (by rw [hd]; exact fun e => by cases e)
      have hu := und_sl (kn.desc.trans hd)
      obtain ⟨i2, z2, ke⟩ := addr_pos (P := P) hT hc.1
      have hs := ke.sizeOf w
      obtain ⟨k, n', ei, h⟩ := asInt_sound h gi
      split at h
      · rename_i h0
        rw [hx] at gx
        obtain ⟨A, cap, ex, hlc, hA⟩ := gx
        have hnn : n ≠ 0 := by omega
        rcases hA with ⟨rfl, e0⟩ | ⟨β, o, rfl, hA⟩
        · exact absurd e0 hnn
        · obtain ⟨q1, q2⟩ := hA.resolve_left hnn
          rw [ex, ei]
          refine yields_of (v := .pointer (some ⟨β, o + n'.toNat * (C.ti e).size, none⟩)) ?_ h ⟨β, q1, by rw [q2, Nat.add_mul, hc.2]⟩
          simp [Instr.indexAt, run_underlying hu, asIntOf, hs, h0.1, h0.2, addr_add]
      · cases h
    · cases h
  · cases h
theorem index_yields {C : Ctx} (hT : TabOk P C.T) {t : TypeId} {x i : Operand} {ρv : Operand → AV} {a : Act} (h : xa C ρv (.index t x i) K = some r) (gx : RA ρ base σ w (ρv x) (a.eval x)) (gi : RA ρ base σ w (ρv i) (a.eval i)) :
    Yields P ρ base σ w K r (Instr.index t (a.eval x) (a.eval i)) := by
  simp only [xa] at h
  split at h
  · rename_i n e cs hd hx
    obtain ⟨i1, z1, kn⟩ := known (P := P) hT (t := t) (by rw [hd]; exact fun e => by cases e)
    have hu := und_arr (kn.desc.trans hd)
    obtain ⟨k, n', ei, h⟩ := asInt_sound h gi
    obtain ⟨m, em, -, hm, h⟩ := pickAt_sound h
    rw [hx] at gx
    obtain ⟨vs, ex, gx⟩ := gx
    have hne : (C.ti e).d ≠ .other := fun e => by unfold partOf at h; rw [e] at h; cases h
    obtain ⟨i2, z2, ke⟩ := known (P := P) hT hne
    have hs := ke.sizeOf w
    obtain ⟨av, v, h1, h2, h3⟩ := partOf_sound hT h gx
    have hlt : (m : Int) < (n : Int) := by omega
    refine ⟨av, v, ?_, h2, h3⟩
    rw [ex, ei, em]
    simp [Instr.index, run_underlying hu, asIntOf, hs, hlt, h1]
    intro hh; omega
  · rename_i s hd hx
    obtain ⟨i1, z1, kn⟩ := known (P := P) hT (t := t) (by rw [hd]; exact fun e => by cases e)
    have hu := und_str (kn.desc.trans hd)
    obtain ⟨k, n', ei, h⟩ := asInt_sound h gi
    obtain ⟨b, hb, h⟩ := Option.bind_eq_some_iff.1 h
    rw [hx] at gx
    have ex : a.eval x = .string s := gx
    unfold bget at hb
    rw [ex, ei]
    refine yields_of (v := .int .u8 b.toNat) ?_ h rfl
    simp [Instr.index, run_underlying hu, asIntOf, hb]
  · cases h
end Go.Proofs.Ytnhogpbibcgpkaa.Xe
