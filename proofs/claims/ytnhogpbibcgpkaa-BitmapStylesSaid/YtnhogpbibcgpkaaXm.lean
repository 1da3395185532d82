/- The executor: 'append', and all that changes the heap. -/
import Derived.Test.YtnhogpbibcgpkaaXl
namespace Go.Proofs.Ytnhogpbibcgpkaa.Xe
open Go Go.RowKit
set_option linter.unusedVariables false
set_option linter.unusedSimpArgs false
variable {P : Program} {R : Type} {w0 : World} {σ0 : Nat → Nat → Prop} {ρ : Env} {σ : Nat → Nat → Prop} {w : World} {r : R}
def letFall (al : List Bool) : Option Nat → List Bool
  | none => al
  | some i => al.set i false
theorem HR.app {bx al} (h : HR P w0 σ0 ρ σ bx al w) {w' : World} {v v' : Value} {old : Option Nat} {t : Ty} {l m : List (El t)} {e e' : TypeId} {cs news : List Value}
    (hold : (old = none ∧ v.ownBlock = none) ∨ ∃ i, old = some i ∧ ρ.own i = some v.ownBlock) (hlow : ∀ β, v.ownBlock = some β → ∀ o, σ β o → o < l.length * t.sz)
    (ho : w.ownsRow w0.heap.size e t.sz v l.length cs) (hr : RLs (RE σ w t) l cs) (hn : RLs (RE σ w t) m news)
    (ho' : w'.ownsRow w0.heap.size e' t.sz v' (l.length + m.length) (cs ++ news)) (hg : w.grownBy w' v.ownBlock)
    (hc : (v'.ownBlock = some w.heap.size ∧ w.heap.size < w'.heap.size ∧ ∀ k, k < w.heap.size → w'.heap[k]? = w.heap[k]?) ∨ v'.ownBlock = v.ownBlock) :
    ∃ ρ' σ', Mono ρ σ w ρ' σ' w' ∧ HR P w0 σ0 ρ' σ' bx (letFall al old ++ [true]) w' ∧ RA ρ' w0.heap.size σ' w' (.sl (some (letFall al old).length) t (l ++ m)) v' := by
  have hlen : (letFall al old).length = al.length := by cases old <;> simp [letFall]
  have hoi : ∀ β, v.ownBlock = some β → ∃ i, old = some i ∧ ρ.own i = some (some β) := fun β e => by
    rcases hold with ⟨_, h2⟩ | ⟨i, h1, h2⟩
    · rw [h2] at e; cases e
    · exact ⟨i, h1, by rw [← e]; exact h2⟩
  have hv1 : ∀ β, v'.ownBlock = some β → v.ownBlock = some β ∨ (β = w.heap.size ∧ w.heap.size < w'.heap.size ∧ ∀ k, k < w.heap.size → w'.heap[k]? = w.heap[k]?) := fun β e => by
    rcases hc with ⟨h1, h2, h3⟩ | h1
    · rw [h1] at e; exact .inr ⟨(Option.some.inj e).symm, h2, h3⟩
    · exact .inl (by rw [← h1]; exact e)
  have hvs : v.ownBlock = none ∨ ∃ g cap, v = .slice (some ⟨g, 0, none⟩) l.length cap := by
    rcases ho.2 with ⟨rfl, _⟩ | ⟨g, cap, cur, rfl, _⟩
    · exact .inl rfl
    · exact .inr ⟨g, cap, rfl⟩
  -- what was stable stays
  have hkeep : ∀ b o u, σ b o → w.cell? ⟨b, o, none⟩ = some u → w'.cell? ⟨b, o, none⟩ = some u := by
    intro b o u hs hcell
    have hlt := h.fits b o hs
    by_cases hb : v.ownBlock = some b
    · rcases hc with ⟨_, _, h3⟩ | h1
      · rw [World.cell?_of_block (w := w) (h3 b hlt)]; exact hcell
      · have hol := hlow b hb o hs
        rcases hvs with hvn | ⟨g, cap, hv⟩
        · rw [hvn] at hb; cases hb
        · have hgb : g = b := by rw [hv] at hb; simpa [Value.ownBlock] using hb
          subst hgb
          rw [hv] at ho
          rw [ho.cellAt o hol] at hcell
          rcases ho'.2 with ⟨e1, _⟩ | ⟨g', cap', cur', e1, _⟩
          · rw [e1, hb] at h1; cases h1
          · have hg' : g' = g := by rw [e1, hb] at h1; simpa [Value.ownBlock] using h1
            subst hg'
            rw [e1] at ho'
            rw [ho'.cellAt o (by rw [Nat.add_mul]; omega), List.getElem?_append_left (List.getElem?_eq_some_iff.1 hcell).1]
            exact hcell
    · rw [World.cell?_of_block (w := w) (hg.block b hlt (fun e => hb e.symm))]; exact hcell
  have hlt' := fun β (e : v'.ownBlock = some β) => ho'.lt β e
  have hkeeps : Keeps σ (fun b o => σ b o ∨ (v'.ownBlock = some b ∧ o < (l.length + m.length) * t.sz)) w w' := ⟨fun _ _ x => .inl x, hkeep⟩
  have hm : Mono ρ σ w { ρ with own := fun k => if k = al.length then some v'.ownBlock else if some k = old then none else ρ.own k, no := al.length + 1 } (fun b o => σ b o ∨ (v'.ownBlock = some b ∧ o < (l.length + m.length) * t.sz)) w' := by
    refine ⟨hkeeps, fun _ _ x => x, by show ρ.no ≤ al.length + 1; rw [h.no]; omega, fun k ow hk x => ?_⟩
    rw [h.no] at hk
    change (if k = al.length then some v'.ownBlock else if some k = old then none else ρ.own k) = some ow at x
    rw [if_neg (by omega)] at x
    split at x
    · cases x
    · rename_i hne
      refine ⟨x, fun β eb => ?_⟩
      subst eb
      have hnv : v.ownBlock ≠ some β := fun e => by
        obtain ⟨i, h1, h2⟩ := hoi β e
        have := h.ownj k i β x h2
        exact hne (by rw [this, h1])
      have hbl := (h.own k β x).2.1
      refine ⟨fun o hs => hs.elim id fun hs => ?_, fun cs' e2 f hcc => by rw [hg.block β hbl (fun e => hnv e.symm)]; exact hcc⟩
      rcases hv1 β hs.1 with h1 | ⟨h1, _⟩
      · exact absurd h1 hnv
      · omega
  refine ⟨_, _, hm, ⟨?_, fun b o x => ?_, fun b o x => .inl (h.sub b o x), fun b o x => ?_, fun b cs' x => ?_, fun b β x => ?_, h.inj, fun i β x => ?_, fun i j β x y => ?_, fun i ow x => ?_, by rw [List.length_append, hlen]; rfl, fun i x => ?_⟩, ?_⟩
  · refine h.below.trans ⟨hg.os, hg.tape, hg.output, hg.size, fun k hk => hg.block k (Nat.lt_of_lt_of_le hk h.size) (fun e => ?_)⟩
    obtain ⟨i, _, h2⟩ := hoi k e.symm
    have := (h.own i k h2).1; omega
  · exact x.elim (fun x => Nat.lt_of_lt_of_le (h.fits b o x) hg.size) fun x => (hlt' b x.1).2
  · exact x.elim (h.old b o) fun x => .inr (hlt' b x.1).1
  · obtain ⟨β, h1, h2⟩ := h.box b cs' x
    exact ⟨β, h1, h2.mono hm (hg.block β (h.phi b β h1).2.2.1 (fun e => by obtain ⟨i, _, h5⟩ := hoi β e.symm; exact (h.own i β h5).2.2 b h1))⟩
  · obtain ⟨h1, h2, h3, h4⟩ := h.phi b β x
    refine ⟨h1, h2, Nat.lt_of_lt_of_le h3 hg.size, fun o hs => hs.elim (h4 o) fun hs => ?_⟩
    rcases hv1 β hs.1 with h5 | ⟨h5, _⟩
    · obtain ⟨i, _, h6⟩ := hoi β h5; exact (h.own i β h6).2.2 b x
    · omega
  · change (if i = al.length then some v'.ownBlock else if some i = old then none else ρ.own i) = some (some β) at x
    split at x
    · have x := Option.some.inj x
      refine ⟨(hlt' β x).1, (hlt' β x).2, fun b y => ?_⟩
      rcases hv1 β x with h5 | ⟨h5, _⟩
      · obtain ⟨i, _, h6⟩ := hoi β h5; exact (h.own i β h6).2.2 b y
      · have := (h.phi b β y).2.2.1; omega
    · split at x
      · cases x
      · obtain ⟨h1, h2, h3⟩ := h.own i β x; exact ⟨h1, Nat.lt_of_lt_of_le h2 hg.size, h3⟩
  · change (if i = al.length then some v'.ownBlock else if some i = old then none else ρ.own i) = some (some β) at x
    change (if j = al.length then some v'.ownBlock else if some j = old then none else ρ.own j) = some (some β) at y
    have key : ∀ k, v'.ownBlock = some β → ¬ some k = old → ρ.own k = some (some β) → False := fun k e1 e2 e3 => by
      rcases hv1 β e1 with h5 | ⟨h5, _⟩
      · obtain ⟨i, h7, h6⟩ := hoi β h5
        have := h.ownj k i β e3 h6
        exact e2 (by rw [this, h7])
      · have := (h.own k β e3).2.1; omega
    split at x <;> split at y
    · omega
    · split at y
      · cases y
      · rename_i e1 e2 e3; exact (key j (Option.some.inj x) e3 y).elim
    · split at x
      · cases x
      · rename_i e1 e2 e3; exact (key i (Option.some.inj y) e3 x).elim
    · split at x <;> split at y
      · cases x
      · cases x
      · cases y
      · exact h.ownj i j β x y
  · change (if i = al.length then some v'.ownBlock else if some i = old then none else ρ.own i) = some ow at x
    rw [List.length_append, hlen]
    split at x
    · simp; omega
    · split at x
      · cases x
      · have := h.lim i ow x; simp; omega
  · show ∃ ow, (if i = al.length then some v'.ownBlock else if some i = old then none else ρ.own i) = some ow
    split
    · exact ⟨_, rfl⟩
    · rename_i hne
      rw [List.getElem?_append] at x
      split at x
      · rename_i hlt
        cases old with
        | none => rw [if_neg (by simp)]; exact h.alive i x
        | some k =>
          simp only [letFall, List.getElem?_set] at x
          by_cases hk : k = i
          · rw [if_pos hk] at x
            split at x <;> simp at x
          · rw [if_neg hk] at x
            rw [if_neg (by simp; exact fun e => hk e.symm)]
            exact h.alive i x
      · rename_i hge
        have := (List.getElem?_eq_some_iff.1 x).1
        simp at this
        rw [hlen] at hge
        omega
  · have hlm : (l ++ m).length = l.length + m.length := List.length_append
    have hrl := RLs.mono (fun _ _ => RE.mono hkeeps) (hr.append hn)
    refine ⟨?_, fun i ei => ?_⟩
    · rcases ho'.2 with ⟨e1, e2⟩ | ⟨g, cap, cur, e1, e2, e3, e4, e5, e6, e7⟩
      · have : l ++ m = [] := List.eq_nil_of_length_eq_zero (by rw [hlm]; exact e2)
        exact ⟨none, 0, by rw [e1, this]; rfl, by rw [this]; exact Nat.le_refl _, .inl this⟩
      · refine ⟨_, cap, by rw [e1, hlm], by rw [hlm]; exact e4, .inr ⟨g, 0, cs ++ news, rfl, hrl, fun j u hu => ?_⟩⟩
        have hj : j < (l.length + m.length) * t.sz := by rw [← ho'.1]; exact (List.getElem?_eq_some_iff.1 hu).1
        rw [Nat.zero_add]
        rw [e1] at ho'
        exact ⟨.inr ⟨by rw [e1]; rfl, hj⟩, by rw [ho'.cellAt j hj]; exact hu⟩
    · obtain rfl := Option.some.inj ei
      rw [hlen]
      refine ⟨Nat.lt_succ_self _, fun ow x => ?_⟩
      change (if al.length = al.length then some v'.ownBlock else _) = some ow at x
      rw [if_pos rfl] at x
      obtain rfl := Option.some.inj x
      refine ⟨rfl, e', cs ++ news, by rw [hlm]; exact ho', hrl, fun β eb o => ?_⟩
      rw [hlm]
      refine ⟨fun x => x.elim (fun x => ?_) fun x => x.2, fun x => .inr ⟨eb, x⟩⟩
      rcases hv1 β eb with h5 | ⟨h5, _⟩
      · have := hlow β h5 o x; rw [Nat.add_mul]; omega
      · have := h.fits β o x; omega
end Go.Proofs.Ytnhogpbibcgpkaa.Xe
