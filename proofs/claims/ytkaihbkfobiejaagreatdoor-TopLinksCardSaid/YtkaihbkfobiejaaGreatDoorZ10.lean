import Derived.Test.YtkaihbkfobiejaaGreatDoorZ6
namespace Go.Proofs.YtkaihbkfobiejaaGreatDoor.Xe
open Go Go.RowKit
set_option linter.unusedVariables false
set_option linter.unusedSimpArgs false
variable {P : Program} {w0 : World} {σ0 : Nat → Nat → Prop} {C : Ctx}
theorem ownsRow_base {w : World} {b b' : Nat} {e : TypeId} {size : Nat} {v : Value} {n : Nat} {xs : List Value} (h : w.ownsRow b e size v n xs) (hb : b' ≤ b) : w.ownsRow b' e size v n xs := by
 obtain ⟨h1, h2⟩ := h
 refine ⟨h1, h2.imp id ?_⟩
 rintro ⟨g, cap, cur, q1, q2, q3⟩
 exact ⟨g, cap, cur, q1, Nat.le_trans hb q2, q3⟩
theorem HR.adopt {ρ : Env} {σ σ' : Nat → Nat → Prop} {w w' : World} {bx al} (h : HR P w0 σ0 ρ σ bx al w) (g : Grow σ w σ' w') {t : Ty} {l : List (El t)} {v : Value} {ow : Option Nat} (hre : RE σ' w' (.sl t) l [v]) (ht : Tip σ' w' w.heap.size t l ow v) :
  ∃ ρ', Mono ρ σ w ρ' σ' w' ∧ HR P w0 σ0 ρ' σ' bx (al ++ [true]) w' ∧ RA ρ' w0.heap.size σ' w' (.sl (some al.length) t l) v := by
 have hg := h.grow g
 obtain ⟨t1, e, cs, t2, t3, t4⟩ := ht
 have hnew : ∀ β, ow = some β → w.heap.size ≤ β ∧ β < w'.heap.size := fun β eb => t2.lt β (by rw [t1]; exact eb)
 have hno := h.no
 have hm1 := h.mono g
 let ρ' : Env := { ρ with own := fun k => if k = al.length then some ow else ρ.own k, no := al.length + 1 }
 have ho : ∀ k, ρ'.own k = if k = al.length then some ow else ρ.own k := fun _ => rfl
 have hmm : Mono ρ σ' w' ρ' σ' w' := ⟨.refl, fun _ _ x => x, by show ρ.no ≤ al.length + 1; omega, fun k ow' hk x => by
  rw [ho, if_neg (by omega)] at x
  exact ⟨x, fun β _ => ⟨fun _ hs => hs, fun _ _ _ hc => hc⟩⟩, rfl⟩
 have hm : Mono ρ σ w ρ' σ' w' := hm1.trans hmm
 refine ⟨ρ', hm, ⟨hg.below, hg.fits, hg.sub, hg.old, fun b cs x => ?_, hg.phi, hg.inj, fun i β x => ?_, fun i j β x y => ?_, fun i ow' x => ?_, ?_, fun i x => ?_, hg.frz, hg.frφ, fun i β x => ?_, hg.pin⟩, hre, fun i ei => ?_⟩
 ·obtain ⟨β, h1, h2⟩ := hg.box b cs x
  exact ⟨β, h1, h2.mono hmm rfl⟩
 ·rw [ho] at x
  split at x
  ·obtain ⟨q1, q2⟩ := hnew β (Option.some.inj x)
   refine ⟨Nat.le_trans h.size q1, q2, fun b y => ?_⟩
   have := (h.phi b β y).2.2.1
   omega
  ·exact hg.own i β x
 ·rw [ho] at x y
  split at x <;> split at y
  ·omega
  ·have := (h.own j β y).2.1
   have := (hnew β (Option.some.inj x)).1
   omega
  ·have := (h.own i β x).2.1
   have := (hnew β (Option.some.inj y)).1
   omega
  ·exact h.ownj i j β x y
 ·rw [ho] at x
  rw [List.length_append, List.length_singleton]
  split at x
  ·omega
  ·have := h.lim i ow' x; omega
 ·show al.length + 1 = _
  rw [List.length_append, List.length_singleton]
 ·rw [ho]
  split
  ·exact ⟨_, rfl⟩
  ·rename_i hne
   rw [List.getElem?_append] at x
   split at x
   ·exact h.alive i x
   ·rename_i hge
    have : i - al.length ≠ 0 := by omega
    obtain ⟨m, hm'⟩ : ∃ m, i - al.length = m + 1 := ⟨i - al.length - 1, by omega⟩
    rw [hm'] at x
    simp at x
 ·rw [ho] at x
  split at x
  ·have := (hnew β (Option.some.inj x)).1
   exact fun hf => by have := (h.frz _ hf).1; omega
  ·exact hg.fro i β x
 ·obtain rfl := Option.some.inj ei
  refine ⟨by show al.length < al.length + 1; omega, fun ow' x => ?_⟩
  rw [ho, if_pos rfl] at x
  obtain rfl := Option.some.inj x
  exact ⟨t1, e, cs, ownsRow_base t2 h.size, t3, t4⟩
def finO (C : Ctx) (fn : Func) (t : Ty) (s : St) : Option (List (El t)) :=
 match resAll C s fn.results.toList with
 | some [.sl (some i) u l] => (match Ty.same u t, s.alive[i]? with
  | some ⟨h⟩, some true => some (h ▸ l)
  | _, _ => none)
 | _ => none
def callO (C : Ctx) (fn : Func) (c : Code) (sg : List Shp) (t : Ty) (n : Nat) (a : El (sgTy sg)) : Option (List (El t)) :=
 step C (fun todo s => atLoop C todo s (run C (finO C fn t) n todo)) (finO C fn t) steps [.code c] (enter fn (encs sg a))
theorem callO_sound (hT : TabOk P C.T) (hG : CtxOk P C) (hm : P.follows .mixedOrders = true) {f : FuncId} {fn : Func} {c : Code} {sg : List Shp} {t : Ty} {n : Nat} {x : El (sgTy sg)} {y : List (El t)} (hf : P.funcs[f]? = some fn) (hb : fn.body = some c)
  (h : callO C fn c sg t n x = some y) {vs : List Value} (hσ : Fits σ0 w0) (hs : RS σ0 w0 sg x vs) :
  Calls P f vs.toArray w0 fun e w' => ∃ v σ' ow, e = .returned v ∧ Grow σ0 w0 σ' w' ∧ RE σ' w' (.sl t) y [v] ∧ Tip σ' w' w0.heap.size t y ow v := by
 intro cs
 have hra := RS.ra (ρ := ⟨fun _ => none, fun _ => none, 0, Frz.no w0⟩) (base := w0.heap.size) hs
 have hl : vs.length = (encs sg x).length := hra.length
 let b : Frame := { (default : Frame) with fn := f, kind := .normal }
 let a0 : Act := { tmps := vs.toArray ++ Array.replicate (fn.ntmps - vs.toArray.size) undef, defers := [] }
 have henter : Frame.enter P f vs.toArray .normal = b.at a0 [.code c] := by
  simp [Frame.enter, Frame.at, hf, hb, b, a0]
 have hrel : Rel P w0 σ0 ⟨fun _ => none, fun _ => none, 0, Frz.no w0⟩ σ0 (enter fn (encs sg x)) a0 w0 := by
  refine ⟨?_, ⟨Below.refl _ _, hσ, fun _ _ h => h, fun _ _ h => .inl h, fun b cs h => by simp [enter] at h, fun b β h => (by cases h), fun b b' β h => (by cases h), fun i β h => (by cases h), fun i j β h => (by cases h), fun i ow h => (by cases h), rfl, fun i h => by simp [enter] at h, fun β h => h.elim, fun b β h => (by cases h), fun i β h => (by cases h), fun b β h => (by cases h)⟩⟩
  show RAs _ _ _ _ (encs sg x ++ List.replicate (fn.ntmps - (encs sg x).length) (.tup [])) (vs.toArray ++ Array.replicate (fn.ntmps - vs.toArray.size) undef).toList
  have hsz : vs.toArray.size = (encs sg x).length := by rw [List.size_toArray, hl]
  rw [Array.toList_append, Array.toList_replicate, hsz]
  refine hra.append (RAs.mk (by simp) fun i a v ha hv => ?_)
  have h1 := List.mem_of_getElem? ha
  have h2 := List.mem_of_getElem? hv
  rw [List.eq_of_mem_replicate h1, List.eq_of_mem_replicate h2]
  exact ⟨#[], rfl, rfl⟩
 obtain ⟨a', w', todo', s', ρ', σ', h1, h2, h3, h4, -⟩ := step_sound (P := P) (w0 := w0) (σ0 := σ0) hT hG hm (fun todo s hh b k e => atLoop_sound e hh fun s' hs' => run_sound hT hG hm n hs' b k e) steps h _ _ a0 w0 b cs (fun _ _ h => by cases h) hrel rfl
 unfold finO at h4
 split at h4
 ·rename_i i u l hv
  split at h4
  ·rename_i hut hsame hal
   subst hut
   obtain rfl := Option.some.inj h4
   obtain ⟨us, e1, e2⟩ := resOf_sound hT h3 hv
   obtain ⟨v, q, rfl, gv, hq⟩ := e2
   obtain rfl : q = [] := hq
   have r1 : (results fn a'.tmps).run P w' = .ok v w' := by
    rw [results_eq]
    simp only [Sem.run_bind, Sem.run_pure, e1, Result.andThen_ok]
    rfl
   obtain ⟨ow, how⟩ := h3.heap.alive i hal
   obtain ⟨k1, k2⟩ := gv
   refine ⟨.returned v, w', _, ⟨v, σ', ow, rfl, ⟨h3.heap.below, h3.heap.sub, h3.heap.old, h3.heap.fits⟩, k1, (k2 i rfl).2 ow how⟩, by rw [henter]; exact h1, rfl, rfl, h2, rfl, fn, hf, r1⟩
  ·cases h4
 ·cases h4
def ownC (g : FuncId) (t : Ty) (y : Option (List (El t))) : ConS := ⟨g, fun args s => match args with
 | [] => some ⟨.sl t, y, fun l => (.sl (some s.alive.length) t l, { s with alive := s.alive ++ [true] })⟩
 | _ => none⟩
theorem ownC_ok {fn : Func} {code : Code} (hT : TabOk P C.T) (hG : CtxOk P C) (hm : P.follows .mixedOrders = true) {g : FuncId} {t : Ty} {n : Nat} (hf : P.funcs[g]? = some fn) (hb : fn.body = some code) (hn : (fn.name == "runtime.NumGoroutine") = false) :
  ConSOk P (ownC g t (callO C fn code [] t n ())) :=
 ⟨⟨fn, hf, by rw [hb]; rfl, hn⟩, fun {w0 σ0 ρ σ w s av vs t' y k} hr ha hH => by
  unfold ownC at hr
  simp only at hr
  split at hr
  ·obtain rfl : vs = [] := ha
   have hr := Option.some.inj hr
   injection hr with q1 q2
   subst q1
   injection (eq_of_heq q2) with h1 h2
   refine (callO_sound hT hG hm hf hb h1 hH.fits rfl).mono ?_
   rintro e w' ⟨v, σ', ow, rfl, hg, hre, htip⟩
   obtain ⟨ρ', m1, m2, m3⟩ := hH.adopt hg hre htip
   refine ⟨v, ρ', σ', rfl, ?_, m1, ?_⟩
   ·rw [← h2]; exact m3
   ·rw [← h2]; exact m2
  ·cases hr⟩
end Go.Proofs.YtkaihbkfobiejaaGreatDoor.Xe
