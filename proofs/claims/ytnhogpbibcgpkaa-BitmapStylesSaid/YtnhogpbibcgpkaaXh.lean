/- The executor: all operations that read their operands alone. -/
import Derived.Test.YtnhogpbibcgpkaaXg
namespace Go.Proofs.Ytnhogpbibcgpkaa.Xe
open Go Go.RowKit
set_option linter.unusedVariables false
set_option linter.unusedSimpArgs false
variable {P : Program} {R : Type} {ρ : Env} {base : Nat} {σ : Nat → Nat → Prop} {w : World} {r : R} {K : AV → Option R}
theorem binop_yields {C : Ctx} (hT : TabOk P C.T) {op : BinOp} {xt yt : TypeId} {x y : Operand} {ρv : Operand → AV} {a : Act} (h : xa C ρv (.binOp op xt x y yt) K = some r)
    (gx : RA ρ base σ w (ρv x) (a.eval x)) (gy : RA ρ base σ w (ρv y) (a.eval y)) : Yields P ρ base σ w K r (do eqGuard op xt x y (a.eval x) (a.eval y); binOp op xt (a.eval x) (a.eval y)) := by
  have strip : ∀ {s : Sem Value}, eqGuard op xt x y (a.eval x) (a.eval y) = pure () → Yields P ρ base σ w K r s → Yields P ρ base σ w K r (do eqGuard op xt x y (a.eval x) (a.eval y); s) := by
    intro s e ⟨av, v, h1, h2, h3⟩
    exact ⟨av, v, by rw [e]; exact h1, h2, h3⟩
  simp only [xa] at h
  split at h
  · rename_i k m l n hx hy
    rw [hx] at gx; rw [hy] at gy
    have ex : a.eval x = .int k m := gx
    have ey : a.eval y = .int l n := gy
    refine strip (by rw [ex]; exact eqGuard_at_int ..) ?_
    rw [ex, ey]
    split at h
    · exact shop_sound h
    · exact shop_sound h
    · rename_i h1 h2
      split at h
      · rename_i hk; subst hk; exact bop_sound h (fun e => h1 e) (fun e => h2 e)
      · cases h
  · rename_i s t hx hy
    rw [hx] at gx; rw [hy] at gy
    have ex : a.eval x = .string s := gx
    have ey : a.eval y = .string t := gy
    refine strip (by rw [ex]; exact eqGuard_at_string ..) ?_
    rw [ex, ey]
    exact sop_sound h
  · rename_i p d q e hx hy
    rw [hx] at gx; rw [hy] at gy
    have ex : a.eval x = .bool (@decide p d) := gx
    have ey : a.eval y = .bool (@decide q e) := gy
    refine strip (by rw [ex]; exact eqGuard_at_bool ..) ?_
    rw [ex, ey]
    split at h
    · rename_i hd
      obtain ⟨i, z, kn⟩ := known (P := P) hT (t := xt) (by rw [hd]; exact fun e => by cases e)
      have hu := und_bool (kn.desc.trans hd)
      exact yields_of (run_eql_bool w xt _ _ hu) h (by show Value.bool _ = Value.bool _; congr 1)
    · rename_i hd
      obtain ⟨i, z, kn⟩ := known (P := P) hT (t := xt) (by rw [hd]; exact fun e => by cases e)
      have hu := und_bool (kn.desc.trans hd)
      exact yields_of (run_neq_bool w xt _ _ hu) h (by show Value.bool _ = Value.bool _; congr 1; cases @decide p d <;> cases @decide q e <;> rfl)
    · cases h
  · rename_i xs ys hx hy
    rw [hx] at gx; rw [hy] at gy
    obtain ⟨us, ex, gx⟩ := gx
    obtain ⟨vs, ey, gy⟩ := gy
    split at h
    · rename_i fs hd
      split at h
      · rename_i hc
        obtain ⟨p, d, hq, hk⟩ := sameK_sound h
        obtain ⟨i, z, kn⟩ := known (P := P) hT (t := xt) (by rw [hd]; exact fun e => by cases e)
        obtain ⟨f, hu, hf⟩ := und_st (kn.desc.trans hd)
        have q0 := kn.eq hc.1
        rw [hd] at q0
        simp only [D.isBool, Bool.false_eq_true, if_false, Bool.and_eq_true, Bool.not_eq_true'] at q0
        obtain ⟨q1, q2⟩ := q0
        have hfo : P.fieldsOf xt = f := by simp [Program.fieldsOf, hu]
        have hnm : ∀ x ∈ f.toList, x.name ≠ "_" := by
          rw [hu] at q2
          simp only [namesOk, List.all_eq_true, bne_iff_ne] at q2
          exact q2
        have hoff : f.toList.map (·.offset) = List.range' 0 f.toList.length := by
          have h2 := hc.2
          rw [← hf] at h2
          simpa [List.range_eq_range', List.map_map, Function.comp_def] using h2
        have hsc : ∀ x ∈ f.toList, ∃ D0 : D, mkD (P.underlying x.type) = D0 ∧ D0.scal = true := by
          intro x hx
          have : ∀ (l : List Field) (as bs : List AV) (p : Prop) (d : Decidable p), same (l.map fun f => (C.ti f.type).d) as bs = some ⟨p, d⟩ → ∀ x ∈ l, (C.ti x.type).d.scal = true := by
            intro l
            induction l with
            | nil => intro _ _ _ _ _ x hx; cases hx
            | cons y l ih =>
              intro as bs p d hs x hx
              rw [List.map_cons] at hs
              cases as with
              | nil => simp [same] at hs
              | cons b as =>
              cases bs with
              | nil => simp [same] at hs
              | cons c bs =>
              obtain ⟨p1, d1, p2, d2, s1, s2, _⟩ := same_cons hs
              rcases List.mem_cons.1 hx with rfl | hx
              · have s1 : same [(C.ti x.type).d] [b] [c] = some ⟨p1, d1⟩ := s1
                have hsc := sc_of s1
                generalize (C.ti x.type).d = dd at hsc ⊢
                cases hsc <;> rfl
              · exact ih as bs p2 d2 s2 x hx
          have hq' : same (f.toList.map fun f => (C.ti f.type).d) xs ys = some ⟨p, d⟩ := by rw [← hf] at hq; simpa [List.map_map, Function.comp_def] using hq
          have hs := this _ _ _ _ _ hq' x hx
          have hne : (C.ti x.type).d ≠ .other := fun e => by rw [e] at hs; cases hs
          obtain ⟨i', z', kn'⟩ := known (P := P) hT hne
          exact ⟨_, kn'.desc, hs⟩
        have hgd : P.eqGuardType P.depth xt = false := by
          unfold Program.depth
          rw [show 2 * (P.types.size + Made.depth) + 2 = (2 * (P.types.size + Made.depth) + 1) + 1 from rfl]
          rw [Program.eqGuardType, hu]
          simp only
          rw [Array.any_eq_false]
          intro j hj
          obtain ⟨D0, e1, e2⟩ := hsc f[j] (by simp)
          have : P.eqGuardType (2 * (P.types.size + Made.depth) + 1) f[j].type = false := by
            rw [Program.eqGuardType]
            cases hu' : P.underlying f[j].type with
            | none => rfl
            | some u => cases u <;> first | rfl | (rw [hu'] at e1; rw [← e1] at e2; cases e2)
          simp [this]
        have hstrip : (eqGuard op xt x y (a.eval x) (a.eval y)).run P w = .ok () w := by rw [ex, ey]; exact run_eqGuard_agg w op xt x y us vs hgd
        have he : (Op.equalIn 10000 xt (.agg us) (.agg vs)).run P w = .ok (@decide p d) w := by
          rw [run_equalIn_struct w 9999 xt us vs (by rw [hfo]; exact hu) q1, hfo]
          exact fields_eq hT 9998 us vs f.toList 0 xs ys p d (by rw [← hf] at hq; simpa [List.map_map, Function.comp_def] using hq) (by simpa using gx) (by simpa using gy) hoff hnm
        obtain ⟨av, v, h1, h2, h3⟩ := agg_sound (ρ := ρ) (base := base) (σ := σ) he hk
        exact ⟨av, v, by rw [Sem.run_bind, hstrip, ex, ey]; exact h1, h2, h3⟩
      · cases h
    · rename_i n e hd
      split at h
      · rename_i hc
        obtain ⟨p, d, hq, hk⟩ := sameK_sound h
        obtain ⟨i, z, kn⟩ := known (P := P) hT (t := xt) (by rw [hd]; exact fun e => by cases e)
        have hu := und_arr (kn.desc.trans hd)
        have hs : (C.ti e).d.scal = true := by
          obtain ⟨m, rfl⟩ : ∃ m, n = m + 1 := ⟨n - 1, by omega⟩
          rw [List.replicate_succ] at hq
          cases xs with
          | nil => simp [same] at hq
          | cons b as =>
          cases ys with
          | nil => simp [same] at hq
          | cons c bs =>
          obtain ⟨p1, d1, p2, d2, s1, s2, _⟩ := same_cons hq
          have hsc := sc_of s1
          generalize (C.ti e).d = dd at hsc ⊢
          cases hsc <;> rfl
        have hne : (C.ti e).d ≠ .other := fun e => by rw [e] at hs; cases hs
        obtain ⟨i', z', kn'⟩ := known (P := P) hT hne
        have hgd : P.eqGuardType P.depth xt = false := by
          unfold Program.depth
          rw [show 2 * (P.types.size + Made.depth) + 2 = (2 * (P.types.size + Made.depth) + 1) + 1 from rfl]
          rw [Program.eqGuardType, hu]
          simp only
          have e1 := kn'.desc
          rw [Program.eqGuardType]
          cases hu' : P.underlying e with
          | none => rfl
          | some u => cases u <;> first | rfl | (rw [hu'] at e1; rw [← e1] at hs; cases hs)
        have hstrip : (eqGuard op xt x y (a.eval x) (a.eval y)).run P w = .ok () w := by rw [ex, ey]; exact run_eqGuard_agg w op xt x y us vs hgd
        have he : (Op.equalIn 10000 xt (.agg us) (.agg vs)).run P w = .ok (@decide p d) w := by
          have hsz := kn'.sizeOf w
          have hr := range_eq (ρ := ρ) (base := base) (σ := σ) kn' 9998 us vs hc.2 n 0 xs ys p d hq (by simpa using gx) (by simpa using gy)
          rw [Op.equalIn]
          simp only [Sem.run_bind, run_underlying hu, Result.andThen_ok, hsz]
          simp only [Std.Legacy.Range.forIn_eq_forIn_range']
          rw [show ([:n] : Std.Legacy.Range).size = n by simp [Std.Legacy.Range.size]]
          refine Eq.trans (congrArg _ (funext fun q => funext fun w' => ?_)) hr
          cases q.fst <;> rfl
        obtain ⟨av, v, h1, h2, h3⟩ := agg_sound (ρ := ρ) (base := base) (σ := σ) he hk
        exact ⟨av, v, by rw [Sem.run_bind, hstrip, ex, ey]; exact h1, h2, h3⟩
      · cases h
    · cases h
  · cases h
end Go.Proofs.Ytnhogpbibcgpkaa.Xe
