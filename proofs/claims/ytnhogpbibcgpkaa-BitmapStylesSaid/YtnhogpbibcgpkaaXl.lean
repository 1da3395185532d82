/- The executor: variables and slices of the call's own: what changes them. -/
import Derived.Test.YtnhogpbibcgpkaaXk
namespace Go.Proofs.Ytnhogpbibcgpkaa.Xe
open Go Go.RowKit
set_option linter.unusedVariables false
set_option linter.unusedSimpArgs false
variable {P : Program} {R : Type} {w0 : World} {σ0 : Nat → Nat → Prop} {ρ : Env} {σ : Nat → Nat → Prop} {w : World} {r : R}
theorem HR.newObj {bx al} (h : HR P w0 σ0 ρ σ bx al w) {b0 : Nat} (hb : bx b0 = none) {cs : List AV} (ob : Obj) (g : ∀ ρ', Mono ρ σ w ρ' σ (w.alloc ob) → BX P ρ' w0.heap.size σ (w.alloc ob) w.heap.size cs) :
    Mono ρ σ w { ρ with φ := fun b => if b = b0 then some w.heap.size else ρ.φ b } σ (w.alloc ob) ∧
    HR P w0 σ0 { ρ with φ := fun b => if b = b0 then some w.heap.size else ρ.φ b } σ (fun b => if b = b0 then some cs else bx b) al (w.alloc ob) := by
  have hg : Grow σ w σ (w.alloc ob) := ⟨(Below.refl _ w).alloc (Nat.le_refl _) _, fun _ _ h => h, fun _ _ h => .inl h, fun b o x => by rw [World.size_alloc]; have := h.fits b o x; omega⟩
  have h0 : ρ.φ b0 = none := by
    cases hp : ρ.φ b0 with
    | none => rfl
    | some β => have := (h.phi b0 β hp).1; rw [hb] at this; cases this
  have hm0 := h.mono hg
  have hm : Mono ρ σ w { ρ with φ := fun b => if b = b0 then some w.heap.size else ρ.φ b } σ (w.alloc ob) :=
    ⟨hm0.toKeeps, fun b β x => by
      show (if b = b0 then some w.heap.size else ρ.φ b) = some β
      rw [if_neg (fun e => by rw [e, h0] at x; cases x)]; exact x, Nat.le_refl _, hm0.own⟩
  refine ⟨hm, ?_⟩
  have hh := h.grow hg
  refine ⟨hh.below, hh.fits, hh.sub, hh.old, fun b cs' x => ?_, fun b β x => ?_, fun b b' β x y => ?_, fun i β x => ?_, hh.ownj, hh.lim, hh.no, hh.alive⟩
  · split at x
    · rename_i hbb
      obtain rfl := Option.some.inj x
      exact ⟨w.heap.size, by show (if b = b0 then _ else _) = _; rw [if_pos hbb], g _ hm⟩
    · rename_i hbb
      obtain ⟨β, h1, h2⟩ := h.box b cs' x
      exact ⟨β, by show (if b = b0 then _ else _) = _; rw [if_neg hbb]; exact h1, h2.mono hm (heap_alloc_old w _ (h.phi b β h1).2.2.1)⟩
  · change (if b = b0 then some w.heap.size else ρ.φ b) = some β at x
    split at x
    · rename_i hbb
      obtain rfl := Option.some.inj x
      exact ⟨by rw [if_pos hbb]; rfl, h.size, by rw [World.size_alloc]; omega, fun o hs => by have := h.fits _ o hs; omega⟩
    · rename_i hbb
      obtain ⟨h1, h2, h3, h4⟩ := h.phi b β x
      exact ⟨by rw [if_neg hbb]; exact h1, h2, by rw [World.size_alloc]; omega, h4⟩
  · change (if b = b0 then some w.heap.size else ρ.φ b) = some β at x
    change (if b' = b0 then some w.heap.size else ρ.φ b') = some β at y
    split at x <;> split at y
    · rename_i e1 e2; rw [e1, e2]
    · obtain rfl := Option.some.inj x
      have := (h.phi b' _ y).2.2.1; omega
    · obtain rfl := Option.some.inj y
      have := (h.phi b _ x).2.2.1; omega
    · exact h.inj b b' β x y
  · obtain ⟨h1, h2, h3⟩ := h.own i β x
    refine ⟨h1, by rw [World.size_alloc]; omega, fun b y => ?_⟩
    change (if b = b0 then some w.heap.size else ρ.φ b) = some β at y
    split at y
    · obtain rfl := Option.some.inj y; omega
    · exact h3 b y
theorem HR.newBox {bx al} (h : HR P w0 σ0 ρ σ bx al w) {b0 : Nat} (hb : bx b0 = none) {cs : List AV} {vs : Array Value} (e : TypeId) (g : RAs ρ w0.heap.size σ w cs vs.toList) :
    Mono ρ σ w { ρ with φ := fun b => if b = b0 then some w.heap.size else ρ.φ b } σ (w.alloc (.cells vs e)) ∧
    HR P w0 σ0 { ρ with φ := fun b => if b = b0 then some w.heap.size else ρ.φ b } σ (fun b => if b = b0 then some cs else bx b) al (w.alloc (.cells vs e)) :=
  h.newObj hb (.cells vs e) fun _ hm => .cells vs e (heap_alloc_new w _) (RAs.mono hm _ g)
theorem HR.setBox {bx al} (h : HR P w0 σ0 ρ σ bx al w) {b β : Nat} (hp : ρ.φ b = some β) {us vs : Array Value} {e : TypeId} (hu : w.heap[β]? = some (.cells us e (0, 0))) {cs : List AV} (g : RAs ρ w0.heap.size σ w cs vs.toList) :
    Mono ρ σ w ρ σ (w.setRow β vs) ∧ HR P w0 σ0 ρ σ (fun x => if x = b then some cs else bx x) al (w.setRow β vs) := by
  obtain ⟨p1, p2, p3, p4⟩ := h.phi b β hp
  have hoth : ∀ k, k ≠ β → (w.setRow β vs).heap[k]? = w.heap[k]? := fun k hk => setRow_other w β k vs hk
  have hm : Mono ρ σ w ρ σ (w.setRow β vs) := ⟨⟨fun _ _ x => x, fun c o v hs hc => by
      rw [cell_setRow_other w β vs ⟨c, o, none⟩ (fun e => p4 o (by rw [← (show c = β from e)]; exact hs))]; exact hc⟩, fun _ _ x => x, Nat.le_refl _, fun i ow _ x => ⟨x, fun γ eg => ⟨fun _ x => x, fun cs' e' f hc => by
      subst eg
      rw [hoth γ (fun e => (h.own i γ x).2.2 b (by rw [hp, e]))]; exact hc⟩⟩⟩
  refine ⟨hm, ⟨h.below.trans ⟨rfl, rfl, rfl, by simp, fun k hk => hoth k (by omega)⟩, fun c o x => by simpa using h.fits c o x, h.sub, h.old, fun c cs' x => ?_, fun c γ x => ?_, h.inj, fun i γ x => ?_, h.ownj, h.lim, h.no, h.alive⟩⟩
  · split at x
    · rename_i hcb
      obtain rfl := Option.some.inj x
      exact ⟨β, by rw [hcb]; exact hp, .cells vs e (setRow_heap w β us vs e (0, 0) hu) (RAs.mono hm _ g)⟩
    · rename_i hcb
      obtain ⟨γ, h1, h2⟩ := h.box c cs' x
      exact ⟨γ, h1, h2.mono hm (hoth γ (fun e => hcb (h.inj c b β (by rw [← e]; exact h1) hp)))⟩
  · obtain ⟨h1, h2, h3, h4⟩ := h.phi c γ x
    refine ⟨?_, h2, by simpa using h3, h4⟩
    show (if c = b then some cs else bx c).isSome = true
    split
    · rfl
    · exact h1
  · obtain ⟨h1, h2, h3⟩ := h.own i γ x; exact ⟨h1, by simpa using h2, h3⟩
/-- A block of the call's own turns. -/
theorem HR.turn {bx al} (h : HR P w0 σ0 ρ σ bx al w) {b β : Nat} {w' : World} (hp : ρ.φ b = some β) (hg : w.grownBy w' (some β)) {cs : List AV} (g : Mono ρ σ w ρ σ w' → BX P ρ w0.heap.size σ w' β cs) :
    Mono ρ σ w ρ σ w' ∧ HR P w0 σ0 ρ σ (fun x => if x = b then some cs else bx x) al w' := by
  obtain ⟨p1, p2, p3, p4⟩ := h.phi b β hp
  have hoth : ∀ k, k < w.heap.size → k ≠ β → w'.heap[k]? = w.heap[k]? := fun k hl hk => hg.block k hl (fun e => hk (Option.some.inj e))
  have hm : Mono ρ σ w ρ σ w' := ⟨⟨fun _ _ x => x, fun c o v hs hc => by
      rw [World.cell?_of_block (w := w) (hoth c (h.fits c o hs) (fun e => p4 o (by rw [← e]; exact hs)))]; exact hc⟩, fun _ _ x => x, Nat.le_refl _, fun i ow _ x => ⟨x, fun γ eg => ⟨fun _ x => x, fun cs' e' f hc => by
      subst eg
      rw [hoth γ (h.own i γ x).2.1 (fun e => (h.own i γ x).2.2 b (by rw [hp, e]))]; exact hc⟩⟩⟩
  refine ⟨hm, ⟨h.below.trans ⟨hg.os, hg.tape, hg.output, hg.size, fun k hk => hoth k (Nat.lt_of_lt_of_le hk h.size) (by omega)⟩, fun c o x => Nat.lt_of_lt_of_le (h.fits c o x) hg.size, h.sub, h.old, fun c cs' x => ?_, fun c γ x => ?_, h.inj, fun i γ x => ?_, h.ownj, h.lim, h.no, h.alive⟩⟩
  · split at x
    · rename_i hcb
      obtain rfl := Option.some.inj x
      exact ⟨β, by rw [hcb]; exact hp, g hm⟩
    · rename_i hcb
      obtain ⟨γ, h1, h2⟩ := h.box c cs' x
      exact ⟨γ, h1, h2.mono hm (hoth γ (h.phi c γ h1).2.2.1 (fun e => hcb (h.inj c b β (by rw [← e]; exact h1) hp)))⟩
  · obtain ⟨h1, h2, h3, h4⟩ := h.phi c γ x
    refine ⟨?_, h2, Nat.lt_of_lt_of_le h3 hg.size, h4⟩
    show (if c = b then some cs else bx c).isSome = true
    split
    · rfl
    · exact h1
  · obtain ⟨h1, h2, h3⟩ := h.own i γ x; exact ⟨h1, Nat.lt_of_lt_of_le h2 hg.size, h3⟩
/-- A slice of the call's own, new. -/
theorem HR.newOwn {bx al} (h : HR P w0 σ0 ρ σ bx al w) {w' : World} (hb : Below w.heap.size w w') {t : Ty} {l : List (El t)} {n cap : Nat} {e : TypeId} {cs : List Value}
    (ho : w'.ownsRow w0.heap.size e t.sz (.slice (some ⟨w.heap.size, 0, none⟩) n cap) n cs) (hl : l.length = n) (hr : RLs (RE σ w t) l cs) (hsz : w.heap.size < w'.heap.size) :
    ∃ ρ' σ', Mono ρ σ w ρ' σ' w' ∧ HR P w0 σ0 ρ' σ' bx (al ++ [true]) w' ∧ RA ρ' w0.heap.size σ' w' (.sl (some al.length) t l) (.slice (some ⟨w.heap.size, 0, none⟩) n cap) := by
  subst hl
  have hg : Grow σ w (fun b o => σ b o ∨ (b = w.heap.size ∧ o < l.length * t.sz)) w' :=
    ⟨hb, fun _ _ x => .inl x, fun b o x => x.imp id fun x => by omega, fun b o x => x.elim (fun x => Nat.lt_of_lt_of_le (h.fits b o x) hb.size) fun x => by omega⟩
  have hm0 := h.mono hg
  have hm : Mono ρ σ w { ρ with own := fun i => if i = al.length then some (some w.heap.size) else ρ.own i, no := al.length + 1 } (fun b o => σ b o ∨ (b = w.heap.size ∧ o < l.length * t.sz)) w' := by
    refine ⟨hm0.toKeeps, hm0.phi, by show ρ.no ≤ al.length + 1; rw [h.no]; omega, fun i ow hi x => ?_⟩
    change (if i = al.length then some (some w.heap.size) else ρ.own i) = some ow at x
    rw [h.no] at hi
    rw [if_neg (by omega)] at x
    exact hm0.own i ow (by rw [h.no]; exact hi) x
  have hh := h.grow hg
  refine ⟨_, _, hm, ⟨hh.below, hh.fits, hh.sub, hh.old, fun b cs' x => ?_, hh.phi, hh.inj, fun i β x => ?_, fun i j β x y => ?_, fun i ow x => ?_, by simp, fun i x => ?_⟩, ?_⟩
  · obtain ⟨β, h1, h2⟩ := h.box b cs' x
    exact ⟨β, h1, h2.mono hm (hb.block β (h.phi b β h1).2.2.1)⟩
  · change (if i = al.length then some (some w.heap.size) else ρ.own i) = some (some β) at x
    split at x
    · simp only [Option.some.injEq] at x
      subst x
      exact ⟨h.size, hsz, fun b y => by have := (h.phi b _ y).2.2.1; omega⟩
    · obtain ⟨h1, h2, h3⟩ := h.own i β x; exact ⟨h1, by omega, h3⟩
  · change (if i = al.length then some (some w.heap.size) else ρ.own i) = some (some β) at x
    change (if j = al.length then some (some w.heap.size) else ρ.own j) = some (some β) at y
    split at x <;> split at y
    · omega
    · simp only [Option.some.injEq] at x; subst x; have := (h.own j _ y).2.1; omega
    · simp only [Option.some.injEq] at y; subst y; have := (h.own i _ x).2.1; omega
    · exact h.ownj i j β x y
  · change (if i = al.length then some (some w.heap.size) else ρ.own i) = some ow at x
    rw [List.length_append]
    split at x
    · simp; omega
    · have := h.lim i ow x; simp; omega
  · show ∃ ow, (if i = al.length then some (some w.heap.size) else ρ.own i) = some ow
    split
    · exact ⟨_, rfl⟩
    · rename_i hne
      rw [List.getElem?_append] at x
      split at x
      · exact h.alive i x
      · rename_i hge
        have := (List.getElem?_eq_some_iff.1 x).1
        simp at this; omega
  · have hcs : ∀ j v, cs[j]? = some v → w'.cell? ⟨w.heap.size, j, none⟩ = some v := fun j v hv => by
      have hj : j < l.length * t.sz := by rw [← ho.1]; exact (List.getElem?_eq_some_iff.1 hv).1
      rw [ho.cellAt j hj]; exact hv
    have hrl : RLs (RE (fun b o => σ b o ∨ (b = w.heap.size ∧ o < l.length * t.sz)) w' t) l cs := RLs.mono (fun _ _ => RE.mono hm0.toKeeps) hr
    have hcap : l.length ≤ cap := by
      rcases ho.2 with ⟨e1, _⟩ | ⟨g, c, cur, e1, _, _, e2, _⟩
      · cases e1
      · simp only [Value.slice.injEq] at e1; omega
    refine ⟨⟨_, cap, rfl, hcap, .inr ⟨w.heap.size, 0, cs, rfl, hrl, fun j v hv => ?_⟩⟩, fun i ei => ?_⟩
    · rw [Nat.zero_add]
      exact ⟨.inr ⟨rfl, by rw [← ho.1]; exact (List.getElem?_eq_some_iff.1 hv).1⟩, hcs j v hv⟩
    · obtain rfl := Option.some.inj ei
      refine ⟨Nat.lt_succ_self _, fun ow x => ?_⟩
      change (if al.length = al.length then some (some w.heap.size) else ρ.own al.length) = some ow at x
      rw [if_pos rfl] at x
      obtain rfl := Option.some.inj x
      refine ⟨rfl, e, cs, ho, hrl, fun β eb o => ?_⟩
      obtain rfl := Option.some.inj eb
      exact ⟨fun x => x.elim (fun x => by have := h.fits _ _ x; omega) fun x => x.2, fun x => .inr ⟨rfl, x⟩⟩
theorem room_run {t ty e e1 : TypeId} {i : TypeInfo} (ht : P.underlying t = some (.slice e)) (hi : P.info? e = some i)
    (g sLen sCap : Nat) (cur : Array Value) (hg : w.heap[g]? = some (.cells cur e1 (0, 0)))
    (a : Addr) (m c : Nat) (news : List Value) (hl : news.length = m * i.size) (hnews : ∀ j u, news[j]? = some u → w.cell? (a.add j) = some u) (h1 : ∀ u ∈ news, u.oneCell' = true)
    (hroom : sLen + m ≤ sCap) (hfit : sLen * i.size + news.length ≤ cur.size) :
    (Builtin.append_ #[t, t] ty #[.slice (some ⟨g, 0, none⟩) sLen sCap, .slice (some a) m c]).run P w =
      .ok (.slice (some ⟨g, 0, none⟩) (sLen + m) sCap) (w.setRow g (cur.toList.take (sLen * i.size) ++ news ++ cur.toList.drop (sLen * i.size + news.length)).toArray) := by
  have hf := run_firstCells_some (P := P) w i.size m a m c news hl hnews
  have hst := run_storeCells_at P g (sLen * i.size) e1 news 0 cur w hg (by simpa using hfit) h1
  simp only [Nat.add_zero] at hst
  simp [Builtin.append_, run_underlying ht, sizeOf, typeInfo, hi, Builtin.lenOf, hroom, hf, Addr.add_lit, hst]
/-- 'append' to one of the call's own. -/
theorem app_run {base : Nat} {t ty e e1 : TypeId} {i : TypeInfo} {z : Value} {size : Nat} (ht : P.underlying t = some (.slice e)) (hi : P.info? e = some i) (hz : i.zero = some z) (hsize : i.size = size) (hzs : z.cells.size = size) (hsz : 0 < size)
    {v : Value} {n : Nat} {xs : List Value} (hown : w.ownsRow base e1 size v n xs) {src : Value} {m c : Nat} {news : List Value} {A : Option Addr} (hsrc : src = .slice A m c) (hA : (A = none ∧ m = 0) ∨ ∃ a, A = some a ∧ ∀ j u, news[j]? = some u → w.cell? (a.add j) = some u)
    (hl : news.length = m * size) (h1 : ∀ u ∈ news, u.oneCell' = true) (hbytes : (n + m) * i.bytes ≤ 140737488355328) (h63 : n + m ≤ maxLen) (hbase : base ≤ w.heap.size) :
    ∃ v' w' e2, (Builtin.append_ #[t, t] ty #[v, src]).run P w = .ok v' w' ∧ w'.ownsRow base e2 size v' (n + m) (xs ++ news) ∧ w.grownBy w' v.ownBlock ∧
      ((v'.ownBlock = some w.heap.size ∧ w.heap.size < w'.heap.size ∧ ∀ k, k < w.heap.size → w'.heap[k]? = w.heap[k]?) ∨ v'.ownBlock = v.ownBlock) := by
  subst hsrc
  rcases hA with ⟨rfl, rfl⟩ | ⟨a, rfl, hnews⟩
  · have hn : news = [] := List.eq_nil_of_length_eq_zero (by simpa using hl)
    subst hn
    refine ⟨v, w, e1, ?_, by simpa using hown, ⟨rfl, rfl, rfl, Nat.le_refl _, fun _ _ _ => rfl⟩, .inr rfl⟩
    rcases hown.2 with ⟨rfl, rfl⟩ | ⟨g, cap, cur, rfl, _, _, hnc, _⟩
    · simp [Builtin.append_, run_underlying ht, sizeOf, typeInfo, hi, Builtin.lenOf, Builtin.firstCells]
    · simp [Builtin.append_, run_underlying ht, sizeOf, typeInfo, hi, Builtin.lenOf, Builtin.firstCells, hnc, storeCells]
  subst hsize
  have hsmall : n + m ≤ 9223372036854775807 := by simp only [maxLen] at h63; omega
  have hlen : (xs ++ news).length = (n + m) * i.size := by rw [List.length_append, hown.1, hl, Nat.add_mul]
  have grown : ∀ (old : Nat), old < n + m → ∀ (row : Option Nat),
      (w.drew.alloc (.cells (xs.toArray ++ news.toArray ++ Builtin.zeroCells z.cells (grownCap w (n + m) old e - (n + m))) e)).ownsRow base e i.size
        (.slice (some ⟨w.heap.size, 0, none⟩) (n + m) (grownCap w (n + m) old e)) (n + m) (xs ++ news) ∧
      w.grownBy (w.drew.alloc (.cells (xs.toArray ++ news.toArray ++ Builtin.zeroCells z.cells (grownCap w (n + m) old e - (n + m))) e)) row := by
    intro old ho row
    have hge := grownCap_ge w (n + m) old e
    have hcm : grownCap w (n + m) old e ≤ maxLen := grownCap_le_maxLen w (n + m) old e h63
    refine ⟨⟨hlen, .inr ⟨w.heap.size, _, _, rfl, hbase, heap_alloc_new w.drew _, hge, hcm, ?_, ?_⟩⟩, ⟨rfl, rfl, rfl, by simp, fun k hk _ => heap_alloc_old w.drew _ hk⟩⟩
    · simp only [Array.size_append, List.size_toArray, size_zeroCells, hzs, hown.1, hl, ← Nat.add_mul]
      congr 1
      omega
    · simp only [Array.toList_append, List.append_assoc]
      rw [← List.append_assoc, ← hlen]
      exact List.take_left
  rcases hown.2 with ⟨rfl, rfl⟩ | ⟨g, cap, cur, rfl, hbg, hg, hnc, hcm, hcs, htake⟩
  · have hx : xs = [] := List.eq_nil_of_length_eq_zero (by simpa using hown.1)
    subst hx
    by_cases hm : m = 0
    · subst hm
      have hn : news = [] := List.eq_nil_of_length_eq_zero (by simpa using hl)
      subst hn
      refine ⟨.slice none 0 0, w, e, ?_, World.ownsRow_nil w base e i.size, ⟨rfl, rfl, rfl, Nat.le_refl _, fun _ _ _ => rfl⟩, .inr rfl⟩
      simp [Builtin.append_, run_underlying ht, sizeOf, typeInfo, hi, Builtin.lenOf, Builtin.firstCells, loadCells, loadCellsFrom]
    · have hr := run_append_nil (P := P) w t ty e i z ht hi hz a m c news hl hnews (by omega) (by omega) (by have hb := hbytes; simp only [Nat.zero_add] at hb; omega)
      have hgr := grown 0 (by omega) (Value.ownBlock (.slice none 0 0))
      simp only [Nat.zero_add, List.nil_append, Array.empty_append] at hgr ⊢
      exact ⟨_, _, _, hr, hgr.1, hgr.2, .inl ⟨rfl, by simp, fun k hk => heap_alloc_old w.drew _ hk⟩⟩
  · by_cases hroom : n + m ≤ cap
    · have hfit : n * i.size + news.length ≤ cur.size := by rw [hl, hcs, ← Nat.add_mul]; exact Nat.mul_le_mul_right _ hroom
      have hr := room_run (P := P) (w := w) (ty := ty) ht hi g n cap cur hg a m c news hl hnews h1 hroom hfit
      refine ⟨_, _, e1, hr, ⟨hlen, .inr ⟨g, cap, _, rfl, hbg, setRow_heap w g cur _ e1 _ hg, hroom, hcm, ?_, ?_⟩⟩, ⟨rfl, rfl, rfl, by simp, fun k _ hk => setRow_other w g k _ (fun e => hk (by simp [Value.ownBlock, e]))⟩, .inr rfl⟩
      · simp only [List.size_toArray, List.length_append, List.length_take, List.length_drop, Array.length_toList]
        omega
      · rw [htake, ← hlen]
        exact List.take_left
    · have holds : ∀ j u, xs[j]? = some u → w.cell? ((⟨g, 0, none⟩ : Addr).add j) = some u := hown.cells (g := g) rfl
      have hr := run_append_grow (P := P) w t ty e i z ht hi hz ⟨g, 0, none⟩ n cap xs hown.1 holds a m c news hl hnews (by omega) (by omega) (growslice_fits (by omega) hbytes)
      have hgr := grown cap (by omega) (Value.ownBlock (.slice (some ⟨g, 0, none⟩) n cap))
      exact ⟨_, _, _, hr, hgr.1, hgr.2, .inl ⟨rfl, by simp, fun k hk => heap_alloc_old w.drew _ hk⟩⟩
theorem RE.one : ∀ {t : Ty} {x : El t} {vs : List Value}, RE σ w t x vs → ∀ u ∈ vs, u.oneCell' = true
  | .int _, _, _, g, u, hu => by rw [show _ = _ from g] at hu; simp at hu; subst hu; rfl
  | .bool, _, _, g, u, hu => by rw [show _ = _ from g] at hu; simp at hu; subst hu; rfl
  | .str, _, _, g, u, hu => by rw [show _ = _ from g] at hu; simp at hu; subst hu; rfl
  | .unit, _, _, g, u, hu => by rw [show _ = _ from g] at hu; cases hu
  | .pair _ _, _, _, ⟨a, b, e, g, k⟩, u, hu => by rw [e] at hu; exact (List.mem_append.1 hu).elim (RE.one g u) (RE.one k u)
  | .sl _, _, _, ⟨A, c, e, g, k⟩, u, hu => by rw [e] at hu; simp at hu; subst hu; rfl
theorem RLs.one {t : Ty} : ∀ {l : List (El t)} {cs : List Value}, RLs (RE σ w t) l cs → ∀ u ∈ cs, u.oneCell' = true
  | [], _, h, u, hu => by rw [show _ = _ from h] at hu; cases hu
  | _ :: _, _, ⟨a, b, e, g, k⟩, u, hu => by rw [e] at hu; exact (List.mem_append.1 hu).elim (RE.one g u) (RLs.one k u)
theorem listOf_sound {t : Ty} {a : AV} {l : List (El t)} {v : Value} {base : Nat} (h : listOf t a = some l) (g : RA ρ base σ w a v) : RE σ w (.sl t) l [v] := by
  unfold listOf at h
  split at h
  · rename_i o u m
    split at h
    · rename_i hp _
      cases hp
      obtain rfl := Option.some.inj h
      exact g.1
    · cases h
  · obtain rfl := Option.some.inj h
    exact ⟨none, 0, by rw [show v = _ from g]; rfl, Nat.le_refl _, .inl rfl⟩
  · obtain rfl := Option.some.inj h
    obtain ⟨A, g1, g3⟩ := g
    exact ⟨A, 0, by rw [g1]; rfl, Nat.le_refl _, .inl rfl⟩
  · cases h
end Go.Proofs.Ytnhogpbibcgpkaa.Xe
