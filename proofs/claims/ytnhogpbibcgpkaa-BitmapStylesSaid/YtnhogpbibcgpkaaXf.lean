/- The executor: operations that read their operands alone: all of them. -/
import Derived.Test.YtnhogpbibcgpkaaXe
namespace Go.Proofs.Ytnhogpbibcgpkaa.Xe
open Go Go.RowKit
set_option linter.unusedVariables false
set_option linter.unusedSimpArgs false
variable {P : Program} {R : Type} {ρ : Env} {base : Nat} {σ : Nat → Nat → Prop} {w : World} {r : R} {K : AV → Option R}
theorem sameK_sound {q : Option (Σ' p : Prop, Decidable p)} {op : BinOp} (h : sameK q op K = some r) : ∃ p d, q = some ⟨p, d⟩ ∧ ((op = .eql ∧ K (.bool p d) = some r) ∨ (op = .neq ∧ K (.bool (¬ p) (@instDecidableNot p d)) = some r)) := by
  unfold sameK at h
  split at h
  · exact ⟨_, _, rfl, .inl ⟨rfl, h⟩⟩
  · exact ⟨_, _, rfl, .inr ⟨rfl, h⟩⟩
  · cases h
theorem agg_sound {xt : TypeId} {xs ys : Array Value} {p : Prop} {d : Decidable p} {op : BinOp} (he : (Op.equalIn 10000 xt (.agg xs) (.agg ys)).run P w = .ok (@decide p d) w)
    (h : (op = .eql ∧ K (.bool p d) = some r) ∨ (op = .neq ∧ K (.bool (¬ p) (@instDecidableNot p d)) = some r)) : Yields P ρ base σ w K r (binOp op xt (.agg xs) (.agg ys)) := by
  rcases h with ⟨rfl, h⟩ | ⟨rfl, h⟩
  · exact yields_of (by rw [run_eql_struct, he]; rfl) h rfl
  · refine yields_of (v := .bool (!(@decide p d))) (by rw [run_neq_struct, he]; rfl) h ?_
    show Value.bool _ = Value.bool _
    by_cases e : p <;> simp [e]
theorem asInt_sound {a : AV} {v : Value} {L : Int → Option R} (h : asInt a L = some r) (g : RA ρ base σ w a v) : ∃ k n, v = .int k n ∧ L n = some r := by
  cases a <;> simp only [asInt] at h <;> try (cases h; done)
  rename_i k n
  exact ⟨k, n, g, h⟩
theorem pickAt_sound {i : Int} {L : Nat → Option R} : ∀ {n j : Nat}, pickAt i L n j = some r → ∃ m : Nat, i = (m : Int) ∧ j ≤ m ∧ m < j + n ∧ L m = some r
  | 0, _, h => by simp [pickAt] at h
  | n + 1, j, h => by
    simp only [pickAt] at h
    split at h
    · rename_i e; exact ⟨j, e, Nat.le_refl _, by omega, h⟩
    · obtain ⟨m, e, h1, h2, h3⟩ := pickAt_sound h; exact ⟨m, e, by omega, by omega, h3⟩
theorem partOf_sound {C : Ctx} (hT : TabOk P C.T) {t : TypeId} {cs : List AV} {vs : Array Value} {off : Nat} (h : partOf (C.ti t) cs off K = some r) (g : RAs ρ base σ w cs vs.toList) : Yields P ρ base σ w K r (part t vs off) := by
  have hne : (C.ti t).d ≠ .other := fun e => by unfold partOf at h; rw [e] at h; cases h
  obtain ⟨i, z, kn⟩ := known hT hne
  have ha := isAgg_of (P := P) kn.desc hne w
  have hs := kn.sizeOf w
  have gt := (g.drop off).take (C.ti t).size
  have key : ∀ (v : AV), (cs.drop off).take (C.ti t).size = [v] → (C.ti t).size = 1 → (C.ti t).d.isAgg = false → K v = some r → Yields P ρ base σ w K r (part t vs off) := by
    intro v e e1 e2 hk
    rw [e] at gt
    obtain ⟨u, q, eu, gu, -⟩ := gt
    rw [e1] at eu
    have hu : vs[off]? = some u := by
      rw [← Array.getElem?_toList]
      have := congrArg (fun l => l[0]?) eu
      simpa [List.getElem?_take] using this
    refine yields_of ?_ hk gu
    rw [e2] at ha
    simp [part, ha, hu]
  have keyA : ((cs.drop off).take (C.ti t).size).length = (C.ti t).size → (C.ti t).d.isAgg = true → K (.agg ((cs.drop off).take (C.ti t).size)) = some r → Yields P ρ base σ w K r (part t vs off) := by
    intro hl e2 hk
    refine yields_of (v := .agg (vs.extract off (off + (C.ti t).size))) ?_ hk ⟨_, rfl, ?_⟩
    · rw [e2] at ha
      simp [part, ha, hs]
    · rw [Array.toList_extract, List.extract_eq_take_drop]
      simpa using gt
  unfold partOf at h
  split at h
  · cases h
  · rename_i hd
    dsimp only at h
    split at h
    · exact keyA (by assumption) (by rw [hd]; rfl) h
    · cases h
  · rename_i hd
    dsimp only at h
    split at h
    · exact keyA (by assumption) (by rw [hd]; rfl) h
    · cases h
  · rename_i h1 h2 h3
    dsimp only at h
    split at h
    · rename_i v e
      split at h
      · rename_i hsz
        exact key v e hsz (by cases hd : (C.ti t).d <;> first | rfl | exact absurd hd (h2 _ _) | exact absurd hd (h3 _)) h
      · cases h
    · cases h
theorem fill_sound {place : Nat → Option (Nat × Nat)} : ∀ {parts : List (Nat × AV)} {vparts : List (Nat × Value)} {cs out : List AV} {vs : Array Value}, fillAt place parts cs = some out → RAs ρ base σ w cs vs.toList →
    vparts.length = parts.length → (∀ (j : Nat) i a, parts[j]? = some (i, a) → ∃ v, vparts[j]? = some (i, v) ∧ RA ρ base σ w a v) → ∃ vo, Instr.fill place vs vparts = some vo ∧ RAs ρ base σ w out vo.toList
  | [], vparts, cs, out, vs, h, g, hl, _ => by
    simp only [fillAt, Option.some.injEq] at h
    subst h
    obtain rfl : vparts = [] := List.eq_nil_of_length_eq_zero (by simpa using hl)
    exact ⟨vs, rfl, g⟩
  | (i, a) :: parts, vparts, cs, out, vs, h, g, hl, hp => by
    obtain ⟨v, hv, ga⟩ := hp 0 i a rfl
    cases vparts with
    | nil => simp at hv
    | cons q vparts =>
    obtain rfl : q = (i, v) := by simpa using hv
    simp only [fillAt] at h
    split at h
    · cases h
    · rename_i off size hpl
      split at h
      · rename_i hc
        obtain ⟨h1, h2, h3⟩ := hc
        have gc := RA.cells h3 ga
        have hcl := gc.length
        have hvl := g.length
        have hsz : v.cells.size = size := by rw [← Array.length_toList, hcl, h1]
        have hfit : off + v.cells.size ≤ vs.size := by rw [hsz, ← Array.length_toList, hvl]; exact h2
        have hfold : ∀ (l : List Value) (k : Nat) (xs : Array Value), off + k + l.length ≤ xs.size → ((l.zipIdx k).foldl (fun cs q => cs.setIfInBounds (off + q.2) q.1) xs).toList = xs.toList.take (off + k) ++ l ++ xs.toList.drop (off + k + l.length) := by
          intro l
          induction l with
          | nil => intro k xs _; simp
          | cons y l ih =>
            intro k xs hk
            simp only [List.zipIdx_cons, List.foldl_cons]
            rw [show k + 1 = k + 1 from rfl, ih (k + 1) _ (by simp at hk ⊢; omega)]
            simp only [Array.toList_setIfInBounds, List.length_cons] at hk ⊢
            have hlt : off + k < xs.toList.length := by simp; omega
            rw [show off + (k + 1) = off + k + 1 by omega, show off + k + 1 + l.length = off + k + (l.length + 1) by omega]
            rw [List.set_eq_take_append_cons_drop, if_pos hlt]
            rw [List.take_append, List.take_take, List.length_take, Nat.min_eq_left (Nat.le_of_lt hlt)]
            simp only [Nat.add_sub_cancel_left, Nat.min_eq_right (Nat.le_add_right _ 1), List.take_succ_cons, List.take_zero]
            rw [List.drop_append, List.length_take, Nat.min_eq_left (Nat.le_of_lt hlt), List.drop_eq_nil_of_le (by simp; omega)]
            rw [show off + k + (l.length + 1) - (off + k) = l.length + 1 by omega, List.drop_succ_cons, List.drop_drop]
            simp
            rw [show off + k + 1 + l.length = off + k + (l.length + 1) by omega]
        have hres := hfold v.cells.toList 0 vs (by simpa using hfit)
        have hz : (v.cells.zipIdx.foldl (fun cs (c, j) => cs.setIfInBounds (off + j) c) vs) = (v.cells.toList.zipIdx.foldl (fun cs q => cs.setIfInBounds (off + q.2) q.1) vs) := by
          rw [← Array.foldl_toList, Array.toList_zipIdx]
        obtain ⟨vo, e1, e2⟩ := fill_sound (vs := v.cells.zipIdx.foldl (fun cs (c, j) => cs.setIfInBounds (off + j) c) vs) (vparts := vparts) h (by
          rw [hz, hres]
          simp only [Nat.add_zero]
          refine RAs.append (RAs.append (g.take off) gc) ?_
          have : off + v.cells.toList.length = off + size := by rw [Array.length_toList, hsz]
          rw [this]
          exact g.drop _) (by simpa using hl) (fun j i' a' hj => by simpa using hp (j + 1) i' a' (by simpa using hj))
        refine ⟨vo, ?_, e2⟩
        have hcnd : ¬ (v.cells.size ≠ size || off + v.cells.size > vs.size) = true := by
          simp [hsz]; omega
        simp only [Instr.fill, hpl, if_neg hcnd, e1]
      · cases h
end Go.Proofs.Ytnhogpbibcgpkaa.Xe
