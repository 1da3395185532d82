/- The executor: a region whose order is open: what each operation reads is there whenever it may come up. -/
import Derived.Test.YtnhogpbibcgpkaaXp
namespace Go.Proofs.Ytnhogpbibcgpkaa.Xe
open Go Go.RowKit
set_option linter.unusedVariables false
set_option linter.unusedSimpArgs false
variable {P : Program} {R : Type} {w0 : World} {σ0 : Nat → Nat → Prop} {ρ : Env} {σ : Nat → Nat → Prop} {w : World} {r : R}
/-- How a guard falls out: the state in which the operation is looked at, and whether it is carried out. -/
inductive Grd (ops : Array Oper) (o : Oper) (s : St) : St → Bool → Prop
  | free : o.guard = none → Grd ops o s s true
  | none {j w} : o.guard = some (j, w) → guardTmp ops j = none → Grd ops o s s false
  | yes {j w t} {p : Prop} {d : Decidable p} : o.guard = some (j, w) → guardTmp ops j = some t → s.tmps.getD t .junk = .bool p d → p → Grd ops o s (s.put (some t) (.bool True inferInstance)) w
  | no {j w t} {p : Prop} {d : Decidable p} : o.guard = some (j, w) → guardTmp ops j = some t → s.tmps.getD t .junk = .bool p d → ¬ p → Grd ops o s (s.put (some t) (.bool False inferInstance)) (!w)
  | tup {j w t} : o.guard = some (j, w) → guardTmp ops j = some t → s.tmps.getD t .junk = .tup [] → Grd ops o s s false
inductive Stp (C : Ctx) (ops : Array Oper) (o : Oper) (s : St) : St → Prop
  | alloc : isAlloc o.op = true → Stp C ops o s s
  | exec {s' s2 av} : isAlloc o.op = false → Grd ops o s s' true → xs C true s' o.op pairK = some (av, s2) → Stp C ops o s (s2.put o.dst av)
  | skip {s'} : isAlloc o.op = false → Grd ops o s s' false → Stp C ops o s (s'.put o.dst (.tup []))
theorem trace {C : Ctx} {ops : Array Oper} {K : St → Option R} : ∀ (l : List Oper) {s : St}, xops C true ops l s K = some r → ∃ S : Nat → St, S 0 = s ∧ (∀ (j : Nat) o, l[j]? = some o → Stp C ops o (S j) (S (j + 1))) ∧ K (S l.length) = some r
  | [], s, h => ⟨fun _ => s, rfl, fun j o hj => by simp at hj, h⟩
  | o :: l, s, h => by
    have go : ∀ {s1 : St}, Stp C ops o s s1 → xops C true ops l s1 K = some r → ∃ S : Nat → St, S 0 = s ∧ (∀ (j : Nat) o', (o :: l)[j]? = some o' → Stp C ops o' (S j) (S (j + 1))) ∧ K (S (o :: l).length) = some r := by
      intro s1 hs h1
      obtain ⟨S, e, hst, hk⟩ := trace l h1
      refine ⟨fun | 0 => s | x + 1 => S x, rfl, fun j o' hj => ?_, hk⟩
      cases j with
      | zero => simp at hj; subst hj; show Stp C ops o s (S 0); rw [e]; exact hs
      | succ j => exact hst j o' (by simpa using hj)
    have ex : ∀ {s' : St}, isAlloc o.op = false → Grd ops o s s' true → xs C true s' o.op (fun v q => xops C true ops l (q.put o.dst v) K) = some r → ∃ S : Nat → St, S 0 = s ∧ (∀ (j : Nat) o', (o :: l)[j]? = some o' → Stp C ops o' (S j) (S (j + 1))) ∧ K (S (o :: l).length) = some r := by
      intro s' ha hg h1
      rw [xs_nat] at h1
      obtain ⟨⟨av, s2⟩, h2, h3⟩ := Option.bind_eq_some_iff.1 h1
      exact go (.exec ha hg h2) h3
    simp only [xops] at h
    split at h
    · rename_i ha; exact go (.alloc ha.2) h
    · rename_i hna
      have ha : isAlloc o.op = false := by cases hh : isAlloc o.op <;> simp_all
      split at h
      · rename_i hg; exact ex ha (.free hg) h
      · rename_i j w hg
        split at h
        · rename_i ht; exact go (.skip ha (.none hg ht)) h
        · rename_i t ht
          split at h
          · rename_i p d hp
            split at h
            · rename_i hpp
              cases w with
              | true => exact ex ha (.yes hg ht hp hpp) h
              | false => exact go (.skip ha (.yes hg ht hp hpp)) h
            · rename_i hpp
              cases w with
              | true => exact go (.skip ha (.no hg ht hp hpp)) h
              | false => exact ex ha (.no hg ht hp hpp) h
          · rename_i hp; exact go (.skip ha (.tup hg ht hp)) h
          · cases h
/-- Two of the executor's values that mean the same. -/
def Eqv (x y : AV) : Prop := ∀ ρ base σ w v, RA ρ base σ w x v ↔ RA ρ base σ w y v
theorem Eqv.refl (x : AV) : Eqv x x := fun _ _ _ _ _ => Iff.rfl
theorem Eqv.trans {x y z : AV} (h : Eqv x y) (g : Eqv y z) : Eqv x z := fun ρ b σ w v => (h ρ b σ w v).trans (g ρ b σ w v)
theorem Eqv.symm {x y : AV} (h : Eqv x y) : Eqv y x := fun ρ b σ w v => (h ρ b σ w v).symm
theorem eqv_true {p : Prop} {d : Decidable p} (hp : p) : Eqv (.bool p d) (.bool True inferInstance) := fun _ _ _ _ v => by
  show v = .bool (@decide p d) ↔ v = .bool (decide True)
  rw [show @decide p d = decide True by simp [hp]]
theorem eqv_false {p : Prop} {d : Decidable p} (hp : ¬ p) : Eqv (.bool p d) (.bool False inferInstance) := fun _ _ _ _ v => by
  show v = .bool (@decide p d) ↔ v = .bool (decide False)
  rw [show @decide p d = decide False by simp [hp]]
theorem put_getD (s : St) (d : Option Tmp) (v : AV) (t : Nat) : (s.put d v).tmps.getD t .junk = if d = some t ∧ t < s.tmps.length then v else s.tmps.getD t .junk := by
  cases d with
  | none => rw [if_neg (fun h => by cases h.1)]; rfl
  | some d =>
    show (s.tmps.set d v).getD t .junk = _
    rw [List.getD_eq_getElem?_getD, List.getElem?_set]
    by_cases h : d = t
    · subst h
      by_cases hl : d < s.tmps.length
      · rw [if_pos rfl, if_pos hl, if_pos ⟨rfl, hl⟩]; rfl
      · have hn : s.tmps[d]? = none := List.getElem?_eq_none (Nat.le_of_not_lt hl)
        rw [if_pos rfl, if_neg hl, if_neg (fun h => hl h.2), List.getD_eq_getElem?_getD, hn]
    · rw [if_neg h, if_neg (fun e => h (Option.some.inj e.1)), List.getD_eq_getElem?_getD]
theorem put_len (s : St) (d : Option Tmp) (v : AV) : (s.put d v).tmps.length = s.tmps.length := by cases d <;> simp [St.put]
theorem Grd.same {ops : Array Oper} {o : Oper} {s s' : St} {b : Bool} (h : Grd ops o s s' b) : s'.boxes = s.boxes ∧ s'.alive = s.alive ∧ s'.tmps.length = s.tmps.length ∧ ∀ t, Eqv (s.tmps.getD t .junk) (s'.tmps.getD t .junk) := by
  cases h with
  | free => exact ⟨rfl, rfl, rfl, fun t => Eqv.refl _⟩
  | none => exact ⟨rfl, rfl, rfl, fun t => Eqv.refl _⟩
  | tup => exact ⟨rfl, rfl, rfl, fun t => Eqv.refl _⟩
  | yes hg ht hp hpp =>
    refine ⟨St.put_boxes .., St.put_alive .., put_len .., fun t => ?_⟩
    rw [put_getD]
    split
    · rename_i e; have := Option.some.inj e.1; subst this; rw [hp]; exact eqv_true hpp
    · exact Eqv.refl _
  | no hg ht hp hpp =>
    refine ⟨St.put_boxes .., St.put_alive .., put_len .., fun t => ?_⟩
    rw [put_getD]
    split
    · rename_i e; have := Option.some.inj e.1; subst this; rw [hp]; exact eqv_false hpp
    · exact Eqv.refl _
theorem xa_sat {C : Ctx} {ρv : Operand → AV} {o : Op} {K : AV → Option R} (h : xa C ρv o K = some r) : ∃ v, xa C ρv o some = some v ∧ K v = some r := by
  rw [xa_nat] at h; exact Option.bind_eq_some_iff.1 h
theorem built_sat {C : Ctx} {ρv : Operand → AV} {t : TypeId} {n : Nat} {parts : List (Nat × Operand)} {L : (u : Ty) → List (El u) → Option R} (h : built C ρv t n parts L = some r) : ∃ u l, L u l = some r := by
  rw [built_nat (S := (u : Ty) × List (El u)) C ρv t n parts (fun u l => some ⟨u, l⟩) L (fun q => L q.1 q.2) (fun _ _ => rfl)] at h
  obtain ⟨q, _, h⟩ := Option.bind_eq_some_iff.1 h
  exact ⟨q.1, q.2, h⟩
def quiet : Op → Bool
  | .alloc .. | .box .. | .store .. | .makeSlice .. | .makeMap .. | .lookup .. | .mapUpdate .. | .range .. | .next .. => false
  | .call { callee := .builtin .append, .. } => false
  | .call { callee := .builtin .copy, .. } => false
  | _ => true
def isBuild (C : Ctx) : Op → Bool
  | .buildSlice .. => true
  | .call { callee := .value f, .. } => mayTurn C f
  | _ => false
theorem callS_sat {C : Ctx} {s : St} {f : FuncId} {args : List AV} {K : AV → St → Option R} (h : callS C s f args K = some r) : ∃ v q, K v q = some r ∧ q.tmps = s.tmps ∧ ((C.S.find? (fun c => c.id == f)).isSome = false → q = s) := by
  unfold callS at h
  split at h
  · rename_i c hc
    split at h
    · obtain ⟨y, _, h⟩ := Option.bind_eq_some_iff.1 h
      exact ⟨_, _, h, rfl, fun hh => by rw [hc] at hh; cases hh⟩
    · cases h
  · split at h
    · split at h
      · split at h
        · split at h
          · obtain ⟨y, _, h⟩ := Option.bind_eq_some_iff.1 h
            exact ⟨_, s, h, rfl, fun _ => rfl⟩
          · cases h
        · cases h
      · rw [callOf_nat] at h
        obtain ⟨y, _, h⟩ := Option.bind_eq_some_iff.1 h
        exact ⟨_, s, h, rfl, fun _ => rfl⟩
    · cases h
theorem xm_sat {C : Ctx} {s : St} {o : Op} {K : AV → St → Option R} (h : xm C s o K = some r) : ∃ v q, K v q = some r ∧ q.tmps = s.tmps ∧ (isBuild C o = false → q = s) := by
  have other : ∀ o, xa C (ev s) o (fun v => K v s) = some r → ∃ v q, K v q = some r ∧ q.tmps = s.tmps ∧ (isBuild C o = false → q = s) := fun o h => by
    obtain ⟨v, _, h⟩ := xa_sat h
    exact ⟨v, s, h, rfl, fun _ => rfl⟩
  unfold xm at h
  split at h
  · split at h
    · split at h
      · split at h
        · obtain ⟨y, _, h⟩ := Option.bind_eq_some_iff.1 h
          exact ⟨_, s, h, rfl, fun _ => rfl⟩
        · cases h
      · split at h
        · split at h
          · split at h
            · split at h
              · exact ⟨_, s, h, rfl, fun _ => rfl⟩
              · cases h
            · cases h
          · cases h
        · cases h
      · cases h
    · exact other _ h
  · rename_i f args tys
    split at h
    · rename_i g caps hf
      obtain ⟨v, q, h1, h2, h3⟩ := callS_sat h
      refine ⟨v, q, h1, h2, fun hb => h3 ?_⟩
      have hb : mayTurn C f = false := hb
      unfold mayTurn at hb
      split at hb
      · have hf : AV.fn _ [] = AV.fn g caps := hf
        simp only [AV.fn.injEq] at hf
        rw [← hf.1]; exact hb
      · have : C.S = [] := by simpa using hb
        rw [this]; rfl
    · cases h
  · exact other _ h
/-- What an operation may turn. -/
theorem xs_sat {C : Ctx} {dr : Bool} {s : St} {o : Op} {K : AV → St → Option R} (h : xs C dr s o K = some r) : ∃ v q, K v q = some r ∧ q.tmps = s.tmps ∧ (quiet o = true → (dr = false → isBuild C o = false) → q = s) := by
  unfold xs at h
  split at h
  · split at h
    · exact ⟨_, _, h, rfl, fun hh _ => by cases hh⟩
    · cases h
  · split at h
    · exact ⟨_, _, h, rfl, fun hh _ => by cases hh⟩
    · cases h
  · unfold xload at h
    split at h
    · rw [partOf_nat] at h
      obtain ⟨v, _, h⟩ := Option.bind_eq_some_iff.1 h
      exact ⟨v, s, h, rfl, fun _ _ => rfl⟩
    · cases h
  · split at h
    · split at h
      · split at h
        · exact ⟨_, _, h, rfl, fun hh _ => by cases hh⟩
        · cases h
      · cases h
    · split at h
      · split at h
        · split at h
          · obtain ⟨y, _, h⟩ := Option.bind_eq_some_iff.1 h
            exact ⟨_, _, h, rfl, fun hh _ => by cases hh⟩
          · cases h
        · cases h
      · cases h
    · cases h
  · obtain ⟨u, l, h⟩ := built_sat h
    split at h
    · split at h
      · exact ⟨_, s, h, rfl, fun _ _ => rfl⟩
      · exact ⟨_, s, h, rfl, fun _ _ => rfl⟩
    · rename_i hdr
      exact ⟨_, _, h, rfl, fun _ hh => by have := hh (by simpa using hdr); cases this⟩
  · split at h
    · split at h
      · split at h
        · split at h
          · split at h
            · split at h
              · split at h
                · split at h
                  · exact ⟨_, _, h, rfl, fun hh _ => by cases hh⟩
                  · cases h
                · cases h
              · cases h
            · split at h
              · exact ⟨_, _, h, rfl, fun hh _ => by cases hh⟩
              · cases h
          · cases h
        · cases h
      · cases h
    · cases h
  · split at h
    · split at h
      · split at h
        · split at h
          · split at h
            · obtain ⟨z, _, h⟩ := Option.bind_eq_some_iff.1 h
              exact ⟨_, s, h, rfl, fun hh _ => by cases hh⟩
            · obtain ⟨z, _, h⟩ := Option.bind_eq_some_iff.1 h
              exact ⟨_, _, h, rfl, fun hh _ => by cases hh⟩
            · split at h
              · obtain ⟨z, _, h⟩ := Option.bind_eq_some_iff.1 h
                exact ⟨_, _, h, rfl, fun hh _ => by cases hh⟩
              · cases h
            · cases h
          · cases h
        · cases h
      · cases h
    · cases h
  · split at h
    · split at h
      · split at h
        · exact ⟨_, _, h, rfl, fun hh _ => by cases hh⟩
        · cases h
      · cases h
    · cases h
  · split at h
    · split at h
      · split at h
        · rw [keyIn_nat] at h
          obtain ⟨v, _, h⟩ := Option.bind_eq_some_iff.1 h
          exact ⟨_, _, h, rfl, fun hh _ => by cases hh⟩
        · cases h
      · cases h
    · cases h
  · split at h
    · split at h
      · split at h
        · rw [keyAdd_nat] at h
          obtain ⟨v, _, h⟩ := Option.bind_eq_some_iff.1 h
          exact ⟨_, _, h, rfl, fun hh _ => by cases hh⟩
        · cases h
      · cases h
    · cases h
  · split at h
    · split at h
      · exact ⟨_, _, h, rfl, fun hh _ => by cases hh⟩
      · cases h
    · cases h
  · split at h
    · split at h
      · split at h
        · split at h
          · exact ⟨_, _, h, rfl, fun hh _ => by cases hh⟩
          · exact ⟨_, _, h, rfl, fun hh _ => by cases hh⟩
        · cases h
      · cases h
    · cases h
  · split at h
    · split at h
      · split at h
        · split at h
          · split at h
            · split at h
              · obtain ⟨y, _, h⟩ := Option.bind_eq_some_iff.1 h
                exact ⟨_, _, h, rfl, fun hh _ => by cases hh⟩
              · cases h
            · cases h
          · split at h
            · split at h
              · split at h
                · split at h
                  · exact ⟨_, _, h, rfl, fun hh _ => by cases hh⟩
                  · cases h
                · cases h
              · cases h
            · cases h
        · cases h
      · cases h
    · cases h
  · split at h
    · obtain ⟨v, _, h⟩ := xa_sat h
      exact ⟨v, s, h, rfl, fun _ _ => rfl⟩
    · rename_i hdr
      obtain ⟨v, q, h1, h2, h3⟩ := xm_sat h
      exact ⟨v, q, h1, h2, fun _ hh => h3 (hh (by simpa using hdr))⟩
theorem xs_pair' {C : Ctx} {dr : Bool} {s s2 : St} {o : Op} {av : AV} (h : xs C dr s o pairK = some (av, s2)) : s2.tmps = s.tmps ∧ (quiet o = true → (dr = false → isBuild C o = false) → s2 = s) := by
  obtain ⟨v, q, h1, h2, h3⟩ := xs_sat h
  have h1 := Option.some.inj h1
  simp only [Prod.mk.injEq] at h1
  obtain ⟨rfl, rfl⟩ := h1
  exact ⟨h2, h3⟩
theorem xs_pair {C : Ctx} {s s2 : St} {o : Op} {av : AV} (h : xs C true s o pairK = some (av, s2)) : s2.tmps = s.tmps ∧ (quiet o = true → s2 = s) :=
  ⟨(xs_pair' h).1, fun hq => (xs_pair' h).2 hq (fun e => by cases e)⟩
end Go.Proofs.Ytnhogpbibcgpkaa.Xe
