/- The executor: regions. -/
import Derived.Test.YtnhogpbibcgpkaaXt1
namespace Go.Proofs.Ytnhogpbibcgpkaa.Xe
open Go Go.RowKit
set_option linter.unusedVariables false
set_option linter.unusedSimpArgs false
variable {P : Program} {R : Type} {w0 : World} {σ0 : Nat → Nat → Prop} {r : R} {C : Ctx} {ops : Array Oper} {sI : St} {S : Nat → St} {idf : Nat → Nat}
theorem xops_nat (C : Ctx) (dr : Bool) (ops : Array Oper) (K : St → Option R) : ∀ (l : List Oper) (s : St), xops C dr ops l s K = (xops C dr ops l s some).bind K
  | [], s => rfl
  | o :: l, s => by
    have ih := xops_nat C dr ops K l
    have ex : ∀ s', (xs C dr s' o.op fun v q => xops C dr ops l (q.put o.dst v) K) = (xs C dr s' o.op fun v q => xops C dr ops l (q.put o.dst v) some).bind K := fun s' => by
      rw [xs_nat, xs_nat C dr s' o.op (fun v q => xops C dr ops l (q.put o.dst v) some), obind]
      congr 1
      funext q
      exact ih _
    simp only [xops]
    split
    · exact ih s
    · split
      · exact ex s
      · split
        · exact ih _
        · split
          · split
            · split
              · exact ex _
              · exact ih _
            · split
              · exact ih _
              · exact ex _
          · exact ih _
          · rfl
/-- What the operations of a region may turn. -/
theorem xops_keeps : ∀ (l : List Oper) {s s1 : St} {dr : Bool}, xops C dr ops l s some = some s1 → (plainOps C l = true → (∀ o ∈ l, True) → dr = true ∨ dr = false → s1.boxes = s.boxes ∧ s1.alive = s.alive) ∧ s1.tmps.length = s.tmps.length ∧
    ∀ t, (∀ o ∈ l, o.dst ≠ some t) → Eqv (s.tmps.getD t .junk) (s1.tmps.getD t .junk)
  | [], s, s1, dr, h => by
    obtain rfl := Option.some.inj h
    exact ⟨fun _ _ _ => ⟨rfl, rfl⟩, rfl, fun t _ => Eqv.refl _⟩
  | o :: l, s, s1, dr, h => by
    have fin : ∀ {q : St}, xops C dr ops l q some = some s1 → q.tmps.length = s.tmps.length → (plainOps C (o :: l) = true → q.boxes = s.boxes ∧ q.alive = s.alive) → (∀ t, o.dst ≠ some t → Eqv (s.tmps.getD t .junk) (q.tmps.getD t .junk)) →
        (plainOps C (o :: l) = true → (∀ o' ∈ o :: l, True) → dr = true ∨ dr = false → s1.boxes = s.boxes ∧ s1.alive = s.alive) ∧ s1.tmps.length = s.tmps.length ∧ ∀ t, (∀ o' ∈ o :: l, o'.dst ≠ some t) → Eqv (s.tmps.getD t .junk) (s1.tmps.getD t .junk) := by
      intro q hq h1 h2 h3
      obtain ⟨g1, g2, g3⟩ := xops_keeps l hq
      refine ⟨fun hp _ hd => ?_, g2.trans h1, fun t ht => (h3 t (ht o (List.mem_cons_self ..))).trans (g3 t fun o' ho' => ht o' (List.mem_cons_of_mem _ ho'))⟩
      have hp' : plainOps C l = true := by unfold plainOps at hp ⊢; rw [List.all_cons, Bool.and_eq_true] at hp; exact hp.2
      have := g1 hp' (fun _ _ => trivial) hd
      have h2 := h2 hp
      exact ⟨this.1.trans h2.1, this.2.trans h2.2⟩
    have skip : ∀ {s' : St}, s'.boxes = s.boxes → s'.alive = s.alive → s'.tmps.length = s.tmps.length → (∀ t, Eqv (s.tmps.getD t .junk) (s'.tmps.getD t .junk)) → xops C dr ops l (s'.put o.dst (.tup [])) some = some s1 →
        (plainOps C (o :: l) = true → (∀ o' ∈ o :: l, True) → dr = true ∨ dr = false → s1.boxes = s.boxes ∧ s1.alive = s.alive) ∧ s1.tmps.length = s.tmps.length ∧ ∀ t, (∀ o' ∈ o :: l, o'.dst ≠ some t) → Eqv (s.tmps.getD t .junk) (s1.tmps.getD t .junk) := by
      intro s' e1 e2 e3 e4 hq
      refine fin hq (by rw [put_len, e3]) (fun _ => ⟨by rw [St.put_boxes, e1], by rw [St.put_alive, e2]⟩) fun t ht => ?_
      rw [put_getD, if_neg (fun hh => ht hh.1)]; exact e4 t
    have ex : ∀ {s' : St}, s'.boxes = s.boxes → s'.alive = s.alive → s'.tmps.length = s.tmps.length → (∀ t, Eqv (s.tmps.getD t .junk) (s'.tmps.getD t .junk)) → (xs C dr s' o.op fun v q => xops C dr ops l (q.put o.dst v) some) = some s1 →
        (plainOps C (o :: l) = true → (∀ o' ∈ o :: l, True) → dr = true ∨ dr = false → s1.boxes = s.boxes ∧ s1.alive = s.alive) ∧ s1.tmps.length = s.tmps.length ∧ ∀ t, (∀ o' ∈ o :: l, o'.dst ≠ some t) → Eqv (s.tmps.getD t .junk) (s1.tmps.getD t .junk) := by
      intro s' e1 e2 e3 e4 hq
      rw [xs_nat] at hq
      obtain ⟨⟨av, s2⟩, h2, h3⟩ := Option.bind_eq_some_iff.1 hq
      have hpr : s2.tmps = s'.tmps ∧ (plainOps C (o :: l) = true → s2.boxes = s'.boxes ∧ s2.alive = s'.alive) := by
        have hpp := xs_pair' h2
        refine ⟨hpp.1, fun hp => ?_⟩
        have hpo : quiet o.op = true ∧ isBuild C o.op = false := by
          unfold plainOps at hp
          rw [List.all_cons, Bool.and_eq_true] at hp
          have h0 := hp.1
          cases ho : o.op with
          | call c =>
            rw [ho] at h0
            cases hc : c with
            | mk callee args tys =>
              rw [hc] at h0
              cases callee with
              | builtin b => cases b <;> first | exact ⟨rfl, rfl⟩ | cases h0
              | value f => exact ⟨rfl, by simpa [isBuild] using h0⟩
              | _ => exact ⟨rfl, rfl⟩
          | _ => rw [ho] at h0; first | exact ⟨rfl, rfl⟩ | cases h0
        have := hpp.2 hpo.1 (fun _ => hpo.2)
        subst this
        exact ⟨rfl, rfl⟩
      refine fin h3 (by rw [put_len, hpr.1, e3]) (fun hp => ⟨by rw [St.put_boxes, (hpr.2 hp).1, e1], by rw [St.put_alive, (hpr.2 hp).2, e2]⟩) fun t ht => ?_
      rw [put_getD, if_neg (fun hh => ht hh.1)]
      show Eqv _ (s2.tmps.getD t .junk)
      rw [hpr.1]; exact e4 t
    simp only [xops] at h
    split at h
    · exact fin h rfl (fun _ => ⟨rfl, rfl⟩) (fun t _ => Eqv.refl _)
    · split at h
      · exact ex rfl rfl rfl (fun t => Eqv.refl _) h
      · rename_i j w hg
        split at h
        · exact skip rfl rfl rfl (fun t => Eqv.refl _) h
        · rename_i t ht
          split at h
          · rename_i p d hp
            have hT : p → ∀ u, Eqv (s.tmps.getD u .junk) ((s.put (some t) (.bool True inferInstance)).tmps.getD u .junk) := fun hpp u => by
              rw [put_getD]; split
              · rename_i e; have := Option.some.inj e.1; subst this; rw [hp]; exact eqv_true hpp
              · exact Eqv.refl _
            have hF : ¬ p → ∀ u, Eqv (s.tmps.getD u .junk) ((s.put (some t) (.bool False inferInstance)).tmps.getD u .junk) := fun hpp u => by
              rw [put_getD]; split
              · rename_i e; have := Option.some.inj e.1; subst this; rw [hp]; exact eqv_false hpp
              · exact Eqv.refl _
            split at h
            · rename_i hpp
              split at h
              · exact ex (St.put_boxes ..) (St.put_alive ..) (put_len ..) (hT hpp) h
              · exact skip (St.put_boxes ..) (St.put_alive ..) (put_len ..) (hT hpp) h
            · rename_i hpp
              split at h
              · exact skip (St.put_boxes ..) (St.put_alive ..) (put_len ..) (hF hpp) h
              · exact ex (St.put_boxes ..) (St.put_alive ..) (put_len ..) (hF hpp) h
          · exact skip rfl rfl rfl (fun t => Eqv.refl _) h
          · cases h
end Go.Proofs.Ytnhogpbibcgpkaa.Xe
