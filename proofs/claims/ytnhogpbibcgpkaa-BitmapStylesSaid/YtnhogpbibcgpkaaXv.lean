/- The executor: a whole region. -/
import Derived.Test.YtnhogpbibcgpkaaXu
namespace Go.Proofs.Ytnhogpbibcgpkaa.Xe
open Go Go.RowKit
set_option linter.unusedVariables false
set_option linter.unusedSimpArgs false
variable {P : Program} {R : Type} {w0 : World} {σ0 : Nat → Nat → Prop} {r : R} {C : Ctx} {ops : Array Oper} {sI : St} {S : Nat → St} {idf : Nat → Nat}
def cnt (f : Nat → Bool) : Nat → Nat
  | 0 => 0
  | n + 1 => cnt f n + (if f n then 0 else 1)
theorem cnt_set {f g : Nat → Bool} {i : Nat} (hf : f i = false) (hg : ∀ j, g j = if j = i then true else f j) : ∀ n, cnt g n + (if i < n then 1 else 0) = cnt f n
  | 0 => by simp [cnt]
  | n + 1 => by
    have ih := cnt_set hf hg n
    simp only [cnt, hg n]
    by_cases h : n = i
    · subst h
      rw [if_neg (Nat.lt_irrefl _)] at ih
      rw [if_pos rfl, hf]
      simp at ih ⊢; omega
    · rw [if_neg h]
      have e1 : (if i < n + 1 then 1 else 0 : Nat) = (if i < n then 1 else 0) := by split <;> split <;> omega
      rw [e1]
      generalize (if f n = true then 0 else 1 : Nat) = z
      generalize (if i < n then 1 else 0 : Nat) = y at ih ⊢
      omega
theorem ready_mem {L : Array Bool} {i : Nat} (hs : L.size = ops.size) (h : i ∈ Region.ready .any ops L) (hed : ∀ (i : Nat) o, ops[i]? = some o → ∀ e ∈ aft o, Region.binds .any e = true) :
    ∃ o, ops[i]? = some o ∧ L.getD i false = false ∧ ∀ e ∈ aft o, L.getD e.on false = true := by
  unfold Region.ready at h
  rw [List.mem_filter] at h
  obtain ⟨h1, h2⟩ := h
  have hi : i < ops.size := List.mem_range.1 h1
  have ho := Array.getElem?_eq_getElem hi
  refine ⟨_, ho, ?_, fun e he => ?_⟩
  · have hi' : i < L.size := by rw [hs]; exact hi
    simp only [Bool.and_eq_true, Bool.not_eq_true'] at h2
    have := h2.1
    simp only [Array.getD, hi', dif_pos] at this ⊢
    exact this
  · rw [ho] at h2
    simp only [Option.map_some, Option.getD_some, Bool.and_eq_true] at h2
    have h3 := h2.2
    rw [← Array.all_toList, List.all_eq_true] at h3
    have := h3 e (List.mem_filter.1 he).1
    rw [show Region.binds .any e = true from (List.mem_filter.1 he).2] at this
    simpa using this
/-- Behind all of them. -/
theorem Inv.rel {L : Array Bool} {a aa : Act} {w w1 : World} {ρ ρ1 : Env} {σ σ1 : Nat → Nat → Prop} {κ : Nat} (hI : Inv P C ops sI S idf w0 σ0 ρ1 σ1 w1 aa L a w ρ σ κ) (h : DR C ops sI S idf) (hall : ∀ (i : Nat), i < ops.size → L.getD i false = true) :
    Rel P w0 σ0 ρ σ (S ops.size) a w := by
  refine ⟨RAs.mk ?_ fun t x v hx hv => ?_, ?_⟩
  · rw [Array.length_toList, hI.tsz, h.len ops.size (Nat.le_refl _)]
  · have := hI.tmp t fun i o hi _ => hall i (Array.getElem?_eq_some_iff.1 hi).1
    rw [getD_list, List.getD_eq_getElem?_getD, List.getD_eq_getElem?_getD, hx, hv] at this
    exact this
  · have hst := h.stills (k := κ) (ops.size - κ) (by have := hI.kle; omega) (fun x h1 h2 p hp => by
      cases hh : isHeap p.op with
      | false => rfl
      | true =>
        exfalso
        have := (hI.kap x p hp hh).1 (hall x (Array.getElem?_eq_some_iff.1 hp).1)
        omega)
    rw [show κ + (ops.size - κ) = ops.size by have := hI.kle; omega] at hst
    rw [hst.2]
    refine hI.heap.congr fun b => ?_
    rw [hst.1, if_neg]
    rintro ⟨j, p, q1, _, _, q4⟩
    rw [hall j (Array.getElem?_eq_some_iff.1 q1).1] at q4; cases q4
theorem draw_all (hT : TabOk P C.T) (hG : CtxOk P C) (h : DR C ops sI S idf) {aa : Act} {w1 : World} {ρ1 : Env} {σ1 : Nat → Nat → Prop} :
    ∀ (fuel : Nat) {L : Array Bool} {a : Act} {w : World} {ρ : Env} {σ : Nat → Nat → Prop} {κ : Nat}, Inv P C ops sI S idf w0 σ0 ρ1 σ1 w1 aa L a w ρ σ κ → cnt (fun i => L.getD i false) ops.size ≤ fuel →
      wpAny P .any ops (onlyNormal (ROut P w0 σ0 ρ1 σ1 w1 aa some (S ops.size))) fuel L a w := by
  have hed : ∀ (i : Nat) o, ops[i]? = some o → ∀ e ∈ aft o, Region.binds .any e = true := fun i o hi e he => (h.edge i o hi e he).1
  have done : ∀ {L : Array Bool} {a : Act} {w : World} {ρ : Env} {σ : Nat → Nat → Prop} {κ : Nat}, Inv P C ops sI S idf w0 σ0 ρ1 σ1 w1 aa L a w ρ σ κ → Region.ready .any ops L = [] → onlyNormal (ROut P w0 σ0 ρ1 σ1 w1 aa some (S ops.size)) .normal a w := fun hI hr =>
    ⟨_, _, _, rfl, hI.defers, hI.mono, hI.rel h (hI.ready h hr)⟩
  intro fuel
  induction fuel with
  | zero =>
    intro L a w ρ σ κ hI hc
    have hr : Region.ready .any ops L = [] := by
      cases hr : Region.ready .any ops L with
      | nil => rfl
      | cons i rs =>
        obtain ⟨o, hi, hl, _⟩ := ready_mem hI.size (show i ∈ Region.ready .any ops L by rw [hr]; exact List.mem_cons_self ..) hed
        have := cnt_set (f := fun i => L.getD i false) (g := fun j => if j = i then true else L.getD j false) hl (fun j => rfl) ops.size
        rw [if_pos (Array.getElem?_eq_some_iff.1 hi).1] at this
        omega
    exact ⟨hr, done hI hr⟩
  | succ fuel ih =>
    intro L a w ρ σ κ hI hc
    refine ⟨fun hr => done hI hr, fun i hir => ?_⟩
    obtain ⟨o, hi, hl, hr⟩ := ready_mem hI.size hir hed
    refine wpOp_mono (fun a' w' ⟨ρ', σ', κ', hI'⟩ => ih hI' ?_) (draw_step hT hG hI h hi hl hr)
    have := cnt_set (f := fun i => L.getD i false) (g := fun j => (L.setIfInBounds i true).getD j false) hl (fun j => not_box hi hl hI.size j) ops.size
    rw [if_pos (Array.getElem?_eq_some_iff.1 hi).1] at this
    omega
theorem draw_region (hT : TabOk P C.T) (hG : CtxOk P C) (hm : P.follows .mixedOrders = true) {id : Nat} {s s1 : St} {a : Act} {w : World} {ρ : Env} {σ : Nat → Nat → Prop} (hd : drawOk C ops.toList = true)
    (hx : xops C true ops ops.toList (preAlloc C ops.toList s) some = some s1) (hr : Rel P w0 σ0 ρ σ s a w) : (Code.region id ops true).wp P (onlyNormal (ROut P w0 σ0 ρ σ w a some s1)) a w := by
  obtain ⟨S, e0, hst, hk⟩ := trace ops.toList hx
  obtain ⟨idf, hdr⟩ := DR.of (sI := s) hd hst e0
  rw [Array.length_toList] at hk
  have hk := Option.some.inj hk
  have hg : Grow σ w σ w.drew := ⟨⟨rfl, rfl, rfl, Nat.le_refl _, fun _ _ => rfl⟩, fun _ _ h => h, fun _ _ h => .inl h, hr.heap.fits⟩
  have hH := hr.heap.grow hg
  have hmono := hr.heap.mono hg
  have hI : Inv P C ops s S idf w0 σ0 ρ σ w a (Array.replicate ops.size false) a w.drew ρ σ 0 := by
    have hrep : ∀ j, (Array.replicate ops.size false).getD j false = false := fun j => by
      rw [Array.getD_eq_getD_getElem?, Array.getElem?_replicate]; split <;> rfl
    refine ⟨by simp, fun i o hi hl => (by rw [hrep] at hl; (cases hl)), Nat.zero_le _, fun i o _ _ => ⟨fun hl => by rw [hrep] at hl; (cases hl), fun hl => absurd hl (Nat.not_lt_zero _)⟩, ?_, fun t ht => ?_, fun t _ => (by rw [getD_list]; exact (RAs.mono hmono _ hr.tmps).getD t), ?_, rfl, hmono⟩
    · rw [← Array.length_toList, hr.tmps.length]
    · have hno : ∀ (i : Nat) o, ops[i]? = some o → o.dst ≠ some t := fun i o hi hdt => by have := ht i o hi hdt; rw [hrep] at this; cases this
      have he := hdr.eqv (k := 0) (t := t) ops.size (by omega) (fun x _ _ p hp _ => hno x p hp)
      rw [Nat.zero_add] at he
      rw [hdr.made.keep t fun i o hi _ => hno i o (by rw [← Array.getElem?_toList]; exact hi)] at he
      refine (he _ _ _ _ _).1 ?_
      rw [getD_list]
      exact (RAs.mono hmono _ hr.tmps).getD t
    · rw [hdr.made.alive]
      refine hH.congr fun b => ?_
      by_cases hb : b < s.boxes.length
      · rw [if_neg, hdr.made.old b hb]
        rintro ⟨j, p, q1, q2, q3, q4⟩
        obtain ⟨e, he⟩ : ∃ e, p.op = .alloc e := by cases hh : p.op <;> rw [hh] at q2 <;> first | exact ⟨_, rfl⟩ | cases q2
        have := (hdr.made.new j p e (by rw [Array.getElem?_toList]; exact q1) he).1
        omega
      · rw [List.getElem?_eq_none (by omega)]
        by_cases hb2 : b < (S 0).boxes.length
        · obtain ⟨j, p, q1, q2, q3⟩ := hdr.made.all b (by omega) hb2
          rw [if_pos ⟨j, p, by rw [← Array.getElem?_toList]; exact q1, q2, q3, hrep j⟩]
        · split
          · rfl
          · rw [List.getElem?_eq_none (by omega)]
  refine wp_region_any hm ?_
  rw [← hk]
  refine draw_all hT hG hdr ops.size hI ?_
  have : ∀ n (f : Nat → Bool), cnt f n ≤ n := fun n f => by
    induction n with
    | zero => exact Nat.le_refl _
    | succ n ih => simp only [cnt]; split <;> omega
  exact this _ _
theorem plain_region (hT : TabOk P C.T) (hG : CtxOk P C) {id : Nat} {s s1 : St} {a : Act} {w : World} {ρ : Env} {σ : Nat → Nat → Prop}
    (hx : xops C false ops ops.toList s some = some s1) (hr : Rel P w0 σ0 ρ σ s a w) : (Code.region id ops false).wp P (onlyNormal (ROut P w0 σ0 ρ σ w a some s1)) a w :=
  wp_region_list (xops_sound hT hG ops.toList hx hr rfl rfl Mono.refl)
theorem outOf_sound {a : Act} {w : World} {ρ : Env} {σ : Nat → Nat → Prop} {s1 : St} (h1 : Rel P w0 σ0 ρ σ s1 a w) : ∀ {l : List (Nat × Ty)} {y : El (outTy l)} {s : St}, outOf s1 l = some y → Rel P w0 σ0 ρ σ s a w → Rel P w0 σ0 ρ σ (outPut s l y) a w
  | [], y, s, h, hr => hr
  | [q], y, s, h, hr => by
    simp only [outOf] at h
    split at h
    · rename_i x hx
      obtain rfl := Option.some.inj h
      refine hr.refine fun v hv => ?_
      have g := h1.tmps.getD q.1
      rw [List.getD_eq_getElem?_getD (l := a.tmps.toList), hv] at g
      exact R1.ra (s := .v q.2) (dec1_sound (s := .v q.2) (by simp only [dec1, hx]) g)
    · cases h
  | q :: q' :: l, y, s, h, hr => by
    simp only [outOf] at h
    split at h
    · rename_i x z hx hz
      obtain rfl := Option.some.inj h
      refine outOf_sound (l := q' :: l) h1 hz (hr.refine fun v hv => ?_)
      have g := h1.tmps.getD q.1
      rw [List.getD_eq_getElem?_getD (l := a.tmps.toList), hv] at g
      exact R1.ra (s := .v q.2) (dec1_sound (s := .v q.2) (by simp only [dec1, hx]) g)
    · cases h
theorem letGo_getD : ∀ (l : List Oper) (s : St) (t : Nat), (letGo s l).tmps.length = s.tmps.length ∧ (letGo s l).boxes = s.boxes ∧ (letGo s l).alive = s.alive ∧
    ((letGo s l).tmps.getD t .junk = .junk ∨ ((letGo s l).tmps.getD t .junk = s.tmps.getD t .junk ∧ ∀ o ∈ l, o.dst ≠ some t ∨ s.tmps.length ≤ t))
  | [], s, t => ⟨rfl, rfl, rfl, .inr ⟨rfl, fun o ho => by cases ho⟩⟩
  | o :: l, s, t => by
    obtain ⟨h1, h2, h3, h4⟩ := letGo_getD l (s.put o.dst .junk) t
    refine ⟨h1.trans (put_len ..), h2.trans (St.put_boxes ..), h3.trans (St.put_alive ..), ?_⟩
    rcases h4 with h4 | ⟨h4, h5⟩
    · exact .inl h4
    · rw [put_getD] at h4
      rw [put_len] at h5
      by_cases hc : o.dst = some t ∧ t < s.tmps.length
      · rw [if_pos hc] at h4; exact .inl h4
      · rw [if_neg hc] at h4
        refine .inr ⟨h4, fun o' ho' => ?_⟩
        rcases List.mem_cons.1 ho' with rfl | ho'
        · by_cases hd : o'.dst = some t
          · exact .inr (Nat.le_of_not_lt fun hlt => hc ⟨hd, hlt⟩)
          · exact .inl hd
        · exact h5 o' ho'
theorem xregion_sound (hT : TabOk P C.T) (hG : CtxOk P C) (hm : P.follows .mixedOrders = true) {id : Nat} {dr : Bool} {s : St} {a : Act} {w : World} {ρ : Env} {σ : Nat → Nat → Prop} {K : St → Option R}
    (hx : xregion C id ops dr s K = some r) (hr : Rel P w0 σ0 ρ σ s a w) : (Code.region id ops dr).wp P (onlyNormal (ROut P w0 σ0 ρ σ w a K r)) a w := by
  have base : ∀ {s1 : St}, xops C dr ops ops.toList (if dr then preAlloc C ops.toList s else s) some = some s1 → (dr = true → drawOk C ops.toList = true) → (Code.region id ops dr).wp P (onlyNormal (ROut P w0 σ0 ρ σ w a some s1)) a w := by
    intro s1 h1 h2
    cases dr with
    | true => exact draw_region hT hG hm (h2 rfl) h1 hr
    | false => exact plain_region hT hG h1 hr
  have fin : (xregion.xregionIn C id ops dr K (if dr then preAlloc C ops.toList s else s)) = some r → (dr = true → drawOk C ops.toList = true) → (Code.region id ops dr).wp P (onlyNormal (ROut P w0 σ0 ρ σ w a K r)) a w := by
    intro h1 h2
    unfold xregion.xregionIn at h1
    split at h1
    · rename_i q hq
      split at h1
      · rename_i hp
        obtain ⟨y, hy, hk⟩ := Option.bind_eq_some_iff.1 h1
        rw [xops_nat] at hy
        obtain ⟨s1, hs1, hy⟩ := Option.bind_eq_some_iff.1 hy
        refine Code.wp_mono (fun e a' w' hQ => ?_) (base hs1 h2)
        cases e with
        | normal =>
          obtain ⟨s', ρ', σ', e1, e2, e3, e4⟩ := hQ
          obtain rfl := Option.some.inj e1
          have hkeep := xops_keeps ops.toList hs1
          -- a region without variables of its own: nothing was made ahead of it
          have hpre : (if dr then preAlloc C ops.toList s else s) = s := by
            split
            · have : ∀ (l : List Oper) (s : St), plainOps C l = true → preAlloc C l s = s := by
                intro l
                induction l with
                | nil => intro s _; rfl
                | cons o l ih =>
                  intro s hp
                  unfold plainOps at hp
                  rw [List.all_cons, Bool.and_eq_true] at hp
                  rw [preAlloc_other l s (by cases ho : o.op <;> first | rfl | (have := hp.1; rw [ho] at this; cases this))]
                  exact ih s hp.2
              exact this _ _ hp
            · rfl
          rw [hpre] at hkeep hk
          refine ⟨_, ρ', σ', hk, e2, e3, outOf_sound e4 hy ⟨RAs.mk ?_ fun t x v hx hv => ?_, ?_⟩⟩
          · rw [e4.tmps.length, hkeep.2.1, (letGo_getD ops.toList s 0).1]
          · have hg := (letGo_getD ops.toList s t).2.2.2
            have hx' : (letGo s ops.toList).tmps.getD t .junk = x := by rw [List.getD_eq_getElem?_getD, hx]; rfl
            rw [hx'] at hg
            rcases hg with hg | ⟨hg, hno⟩
            · rw [hg]; trivial
            · rw [hg]
              have htl : t < s.tmps.length := by
                have := (List.getElem?_eq_some_iff.1 hx).1
                rwa [(letGo_getD ops.toList s 0).1] at this
              have he := hkeep.2.2 t fun o ho => (hno o ho).resolve_right (by omega)
              refine RA.of_eqv he ?_
              have := e4.tmps.getD t
              rw [List.getD_eq_getElem?_getD (l := a'.tmps.toList), hv] at this
              exact this
          · rw [(letGo_getD ops.toList s 0).2.1, (letGo_getD ops.toList s 0).2.2.1]
            have hb := hkeep.1 hp (fun _ _ => trivial) (by cases dr <;> simp)
            have := e4.heap
            rw [hb.1, hb.2] at this
            exact this
        | _ => exact hQ
      · cases h1
    · rw [xops_nat] at h1
      obtain ⟨s1, hs1, hk⟩ := Option.bind_eq_some_iff.1 h1
      refine Code.wp_mono (fun e a' w' hQ => ?_) (base hs1 h2)
      cases e with
      | normal =>
        obtain ⟨s', ρ', σ', e1, e2, e3, e4⟩ := hQ
        obtain rfl := Option.some.inj e1
        exact ⟨_, ρ', σ', hk, e2, e3, e4⟩
      | _ => exact hQ
  unfold xregion at hx
  split at hx
  · rename_i hdr
    split at hx
    · rename_i hd
      exact fin (by rw [if_pos hdr]; exact hx) (fun _ => hd)
    · cases hx
  · rename_i hdr
    exact fin (by rw [if_neg hdr]; exact hx) (fun h => absurd h hdr)
end Go.Proofs.Ytnhogpbibcgpkaa.Xe
