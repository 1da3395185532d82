/- The executor: the operations of a region, one behind the other. -/
import Derived.Test.YtnhogpbibcgpkaaXn
import Derived.Tactics
namespace Go.Proofs.Ytnhogpbibcgpkaa.Xe
open Go Go.RowKit
set_option linter.unusedVariables false
set_option linter.unusedSimpArgs false
variable {P : Program} {R : Type} {w0 : World} {σ0 : Nat → Nat → Prop} {ρ : Env} {σ : Nat → Nat → Prop} {w : World} {r : R}
theorem put_toList (a : Act) (dst : Option Tmp) (v : Value) : (a.put dst v).tmps.toList = (match dst with | none => a.tmps.toList | some d => a.tmps.toList.set d v) := by
  cases dst <;> simp [Act.put]
theorem RAs.put {base : Nat} {s : St} {a : Act} (h : RAs ρ base σ w s.tmps a.tmps.toList) (dst : Option Tmp) {av : AV} {v : Value} (g : RA ρ base σ w av v) : RAs ρ base σ w (s.put dst av).tmps (a.put dst v).tmps.toList := by
  rw [put_toList]
  cases dst with
  | none => exact h
  | some d => exact h.set d g
theorem St.put_boxes (s : St) (dst : Option Tmp) (v : AV) : (s.put dst v).boxes = s.boxes := by cases dst <;> rfl
theorem St.put_alive (s : St) (dst : Option Tmp) (v : AV) : (s.put dst v).alive = s.alive := by cases dst <;> rfl
theorem put_defers (a : Act) (dst : Option Tmp) (v : Value) : (a.put dst v).defers = a.defers := by cases dst <;> rfl
theorem Rel.put {s : St} {a : Act} (h : Rel P w0 σ0 ρ σ s a w) (dst : Option Tmp) {av : AV} {v : Value} (g : RA ρ w0.heap.size σ w av v) : Rel P w0 σ0 ρ σ (s.put dst av) (a.put dst v) w :=
  ⟨h.tmps.put dst g, by rw [St.put_boxes, St.put_alive]; exact h.heap⟩
/-- A temporary of which more is known. -/
theorem Rel.refine {s : St} {a : Act} (h : Rel P w0 σ0 ρ σ s a w) {t : Tmp} {av : AV} (g : ∀ v, a.tmps.toList[t]? = some v → RA ρ w0.heap.size σ w av v) : Rel P w0 σ0 ρ σ (s.put (some t) av) a w := by
  refine ⟨RAs.mk (by simp [St.put, h.tmps.length]) fun i b u x y => ?_, h.heap⟩
  change (s.tmps.set t av)[i]? = some b at x
  rw [List.getElem?_set] at x
  split at x
  · rename_i e
    subst e
    split at x
    · obtain rfl := Option.some.inj x; exact g u y
    · cases x
  · obtain ⟨u', hu, g'⟩ := h.tmps.get x
    rw [hu] at y
    obtain rfl := Option.some.inj y
    exact g'
/-- Behind a region. -/
def ROut (P : Program) (w0 : World) (σ0 : Nat → Nat → Prop) (ρ : Env) (σ : Nat → Nat → Prop) (w : World) (a : Act) (K : St → Option R) (r : R) : Act → World → Prop :=
  fun a' w' => ∃ s' ρ' σ', K s' = some r ∧ a'.defers = a.defers ∧ Mono ρ σ w ρ' σ' w' ∧ Rel P w0 σ0 ρ' σ' s' a' w'
def onlyNormal (Q : Act → World → Prop) : Exit → Act → World → Prop
  | .normal, a, w => Q a w
  | _, _, _ => False
theorem yielded_at {s : St} {a : Act} {base : Nat} (h : RAs ρ base σ w s.tmps a.tmps.toList) {ops : Array Oper} {j t : Nat} (ht : guardTmp ops j = some t) {p : Prop} {d : Decidable p} (hp : s.tmps.getD t .junk = .bool p d) :
    yielded ops a.tmps j = some (@decide p d) ∧ ∀ v, a.tmps.toList[t]? = some v → v = .bool (@decide p d) := by
  have h1 : s.tmps[t]? = some (.bool p d) := by
    rw [List.getD_eq_getElem?_getD] at hp
    cases hs : s.tmps[t]? with
    | none => rw [hs] at hp; cases hp
    | some x => rw [hs] at hp; exact congrArg some hp
  obtain ⟨v, hv, g⟩ := h.get h1
  have g : v = .bool (@decide p d) := g
  refine ⟨?_, fun u hu => by rw [hv] at hu; obtain rfl := Option.some.inj hu; exact g⟩
  unfold guardTmp at ht
  rw [Array.getElem?_toList] at hv
  simp [yielded, ht, hv, g]
theorem yielded_no {s : St} {a : Act} {base : Nat} (h : RAs ρ base σ w s.tmps a.tmps.toList) {ops : Array Oper} {j t : Nat} (ht : guardTmp ops j = some t) (hp : s.tmps.getD t .junk = .tup []) :
    yielded ops a.tmps j = none := by
  have h1 : s.tmps[t]? = some (.tup []) := by
    rw [List.getD_eq_getElem?_getD] at hp
    cases hs : s.tmps[t]? with
    | none => rw [hs] at hp; cases hp
    | some x => rw [hs] at hp; exact congrArg some hp
  obtain ⟨v, hv, vs, e, _⟩ := h.get h1
  unfold guardTmp at ht
  rw [Array.getElem?_toList] at hv
  simp [yielded, ht, hv, e]
theorem xops_sound {C : Ctx} (hT : TabOk P C.T) (hG : CtxOk P C) {dr : Bool} {ops : Array Oper} {K : St → Option R} {aa : Act} : ∀ (l : List Oper) {s : St} {a : Act} {ρ : Env} {σ : Nat → Nat → Prop} {w : World},
    xops C dr ops l s K = some r → Rel P w0 σ0 ρ σ s a w → a.defers = aa.defers → dr = false → ∀ {ρ1 : Env} {σ1 : Nat → Nat → Prop} {w1 : World}, Mono ρ1 σ1 w1 ρ σ w → wpList P ops (onlyNormal (ROut P w0 σ0 ρ1 σ1 w1 aa K r)) l a w
  | [], s, a, ρ, σ, w, h, hr, hd, hdr, ρ1, σ1, w1, m => ⟨s, ρ, σ, h, hd, m, hr⟩
  | o :: l, s, a, ρ, σ, w, h, hr, hd, hdr, ρ1, σ1, w1, m => by
    have skip : ∀ {s : St}, Rel P w0 σ0 ρ σ s a w → xops C dr ops l (s.put o.dst (.tup [])) K = some r → wpList P ops (onlyNormal (ROut P w0 σ0 ρ1 σ1 w1 aa K r)) l (a.put o.dst undef) w := fun hr h =>
      xops_sound hT hG l h (hr.put o.dst ⟨#[], rfl, rfl⟩) (by rw [put_defers]; exact hd) hdr m
    have doit : ∀ {s : St}, Rel P w0 σ0 ρ σ s a w → xs C dr s o.op (fun v s' => xops C dr ops l (s'.put o.dst v) K) = some r → o.wp P a w (wpList P ops (onlyNormal (ROut P w0 σ0 ρ1 σ1 w1 aa K r)) l) (onlyNormal (ROut P w0 σ0 ρ1 σ1 w1 aa K r)) := fun hr h =>
      Oper.wp_mono (fun a' w' ⟨av, s', v, ρ', σ', h1, h2, h3, h4, h5, h6⟩ => by
        subst h2
        refine xops_sound hT hG l h1 ⟨?_, by rw [St.put_boxes, St.put_alive]; exact h6⟩ (by rw [put_defers]; exact hd) hdr (m.trans h5)
        have := RAs.mono h5 _ hr.tmps
        rw [← h3] at this
        exact this.put o.dst h4) (xs_sound hT hG (fun x _ => ev_sound hr.tmps x) hr.heap h)
    have unw : ∀ {g : Option (Nat × Bool)}, o.guard = g → Region.wanted o (yielded ops a.tmps) = (match g with | none => true | some (j, w) => yielded ops a.tmps j == some w) := fun hg => by subst hg; rfl
    unfold wpList
    simp only [xops] at h
    rw [if_neg (by rw [hdr]; simp)] at h
    split at h
    · rename_i hg
      rw [if_pos (unw hg)]
      exact .inl (doit hr h)
    · rename_i j wt hg
      have hw : Region.wanted o (yielded ops a.tmps) = (yielded ops a.tmps j == some wt) := unw hg
      split at h
      · rename_i ht
        have hy : yielded ops a.tmps j = none := by unfold guardTmp at ht; simp [yielded, ht]
        rw [hy] at hw
        rw [if_neg (by rw [hw]; exact Bool.false_ne_true)]
        exact skip hr h
      · rename_i t ht
        split at h
        · rename_i p d hp
          obtain ⟨hy, hval⟩ := yielded_at hr.tmps ht hp
          rw [hy] at hw
          have hrT : p → Rel P w0 σ0 ρ σ (s.put (some t) (.bool True inferInstance)) a w := fun hpp => hr.refine fun v hv => by
            rw [hval v hv]; show Value.bool _ = Value.bool _; congr 1; simp [hpp]
          have hrF : ¬ p → Rel P w0 σ0 ρ σ (s.put (some t) (.bool False inferInstance)) a w := fun hpp => hr.refine fun v hv => by
            rw [hval v hv]; show Value.bool _ = Value.bool _; congr 1; simp [hpp]
          split at h
          · rename_i hpp
            rw [show @decide p d = true from decide_eq_true hpp] at hw
            cases wt with
            | true => simp only [if_true] at h; rw [if_pos (by rw [hw]; rfl)]; exact .inl (doit (hrT hpp) h)
            | false => simp only [Bool.false_eq_true, if_false] at h; rw [if_neg (by rw [hw]; decide)]; exact skip (hrT hpp) h
          · rename_i hpp
            rw [show @decide p d = false from decide_eq_false hpp] at hw
            cases wt with
            | true => simp only [if_true] at h; rw [if_neg (by rw [hw]; decide)]; exact skip (hrF hpp) h
            | false => simp only [Bool.false_eq_true, if_false] at h; rw [if_pos (by rw [hw]; rfl)]; exact .inl (doit (hrF hpp) h)
        · rename_i hp
          have hy := yielded_no hr.tmps ht hp
          rw [hy] at hw
          rw [if_neg (by rw [hw]; exact Bool.false_ne_true)]
          exact skip hr h
        · cases h
end Go.Proofs.Ytnhogpbibcgpkaa.Xe
