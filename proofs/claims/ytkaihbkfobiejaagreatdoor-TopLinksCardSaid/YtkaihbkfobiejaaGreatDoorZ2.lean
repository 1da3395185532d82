import Derived.Test.YtkaihbkfobiejaaGreatDoorZ1
import Derived.Laws.OwnMore
import Derived.Maps.Own
import Derived.Maps.Views
import Derived.Maps.OwnOps
import Derived.StringKeys
namespace Go.Proofs.YtkaihbkfobiejaaGreatDoor.Xe
open Go Go.RowKit
set_option linter.unusedVariables false
set_option linter.unusedSimpArgs false
variable {P : Program} {R : Type} {w0 : World} {σ0 : Nat → Nat → Prop} {ρ : Env} {σ : Nat → Nat → Prop} {w : World} {r : R}
def litOf : (u : Ty) → El u → Lit
 | .int k, z => .int k z
 | .str, z => .string (ByteArray.data z).toList
 | _, _ => .bool false
structure MapTy (P : Program) (k e : TypeId) (u : Ty) : Prop where
 key : (u = .int .i64 ∧ P.underlying k = some (.int .i64)) ∨ (u = .str ∧ P.underlying k = some .string)
 elem : P.underlying e = some .bool
 zero : ∀ w, (zeroValue e).run P w = .ok (.bool false) w
def Keyed (P : Program) (w : World) (b : Nat) (k e : TypeId) (u : Ty) (l : List (El u)) : Prop :=
 MapTy P k e u ∧ ∃ D : DataW Unit, w.ownsMap P k (Go.plainElem P e) b l.length D ∧ Go.Maps.IsMap D ∧ ∀ z : El u, ((z ∈ l → D.atKey (litOf u z) (.lit (.bool false)) = .lit (.bool true)) ∧ (z ∉ l → D.atKey (litOf u z) (.lit (.bool false)) = .lit (.bool false)))
def byteTy (P : Program) : TypeId := ((List.range P.types.size).find? fun t => match P.underlying t with
 | some (.int .u8) => true
 | _ => false).getD 0
def Bld (P : Program) (ρ : Env) (base : Nat) (σ : Nat → Nat → Prop) (w : World) (β : Nat) (i : Option Nat) (T : TypeId) (l : List Int) : Prop :=
 ∃ p v, w.heap[β]? = some (.cells #[p, v] T (0, 0)) ∧ (p = .pointer none ∨ p = .pointer (some ⟨β, 0, none⟩)) ∧ (∀ x ∈ l, 0 ≤ x ∧ x < 256) ∧
  ∀ j, i = some j → j < ρ.no ∧ ∀ ow, ρ.own j = some ow → v.ownBlock = ow ∧ (∀ b, ow = some b → ∀ o, σ b o ↔ o < l.length) ∧ byteTy P ≠ T ∧ w.ownsRow base (byteTy P) 1 v l.length (l.map (Value.int .u8))
inductive BX (P : Program) (ρ : Env) (base : Nat) (σ : Nat → Nat → Prop) (w : World) (β : Nat) (cs : List AV) : Prop
 | cells (vs : Array Value) (e : TypeId) : w.heap[β]? = some (.cells vs e (0, 0)) → RAs ρ base σ w cs vs.toList → BX P ρ base σ w β cs
 | map (k e : TypeId) (u : Ty) (l : List (El u)) : cs = [.keys k e u l] → Keyed P w β k e u l → BX P ρ base σ w β cs
 | iter (s : ByteArray) (p : Nat) : cs = [.itr s p] → w.heap[β]? = some (.stringIter s p) → BX P ρ base σ w β cs
 | rows (u : Ty) (l : List (El u)) (vs : Array Value) (e : TypeId) : cs = [.row u l] → w.heap[β]? = some (.cells vs e (0, 0)) → RLs (RE σ w u) l vs.toList → BX P ρ base σ w β cs
 | build (i : Option Nat) (T : TypeId) (l : List Int) : cs = [.bld i T l] → Bld P ρ base σ w β i T l → BX P ρ base σ w β cs
 | fresh (e : TypeId) : cs = [.bld0 e] → w.heap[β]? = some (.cells #[.pointer none, .slice none 0 0] e (0, 0)) → BX P ρ base σ w β cs
theorem Keyed.same {P : Program} {w w' : World} {b : Nat} {k e : TypeId} {u : Ty} {l : List (El u)} (h : Keyed P w b k e u l) (hb : w'.heap[b]? = w.heap[b]?) : Keyed P w' b k e u l := by
 obtain ⟨h0, D, ⟨es, clock, h1, h2⟩, h3⟩ := h
 exact ⟨h0, D, ⟨es, clock, by rw [hb]; exact h1, h2⟩, h3⟩
theorem Bld.mono {P : Program} {ρ ρ' : Env} {base : Nat} {σ σ' : Nat → Nat → Prop} {w w' : World} {β : Nat} {i : Option Nat} {T : TypeId} {l : List Int} (h : Bld P ρ base σ w β i T l) (hm : Mono ρ σ w ρ' σ' w') (hb : w'.heap[β]? = w.heap[β]?) : Bld P ρ' base σ' w' β i T l := by
 obtain ⟨p, v, h1, h2, h5, h4⟩ := h
 refine ⟨p, v, by rw [hb]; exact h1, h2, h5, fun j ej => ⟨Nat.lt_of_lt_of_le (h4 j ej).1 hm.no, fun ow how => ?_⟩⟩
 obtain ⟨hi, h4⟩ := h4 j ej
 obtain ⟨g1, g2⟩ := hm.own j ow hi how
 obtain ⟨k1, k2, k5, k4⟩ := h4 ow g1
 refine ⟨k1, fun b eb o => ⟨fun x => (k2 b eb o).1 ((g2 b eb).1 o x), fun x => hm.sig _ _ ((k2 b eb o).2 x)⟩, k5, k4.1, ?_⟩
 rcases k4.2 with k4 | ⟨g, c, cur, q1, q2, q3, q4⟩
 ·exact .inl k4
 ·exact .inr ⟨g, c, cur, q1, q2, (g2 g (by rw [← k1, q1]; rfl)).2 _ _ _ q3, q4⟩
theorem BX.mono {P : Program} {ρ ρ' : Env} {base : Nat} {σ σ' : Nat → Nat → Prop} {w w' : World} {β : Nat} {cs : List AV} (h : BX P ρ base σ w β cs) (hm : Mono ρ σ w ρ' σ' w') (hb : w'.heap[β]? = w.heap[β]?) : BX P ρ' base σ' w' β cs := by
 cases h with
 | cells vs e h1 h2 => exact .cells vs e (by rw [hb]; exact h1) (RAs.mono hm _ h2)
 | map k e u l h1 h2 => exact .map k e u l h1 (h2.same hb)
 | iter s p h1 h2 => exact .iter s p h1 (by rw [hb]; exact h2)
 | rows u l vs e h1 h2 h3 => exact .rows u l vs e h1 (by rw [hb]; exact h2) (RLs.mono (fun _ _ => RE.mono hm.toKeeps) h3)
 | build i T l h1 h2 => exact .build i T l h1 (h2.mono hm hb)
 | fresh e h1 h2 => exact .fresh e h1 (by rw [hb]; exact h2)
theorem BX.plain {P : Program} {ρ : Env} {base : Nat} {σ : Nat → Nat → Prop} {w : World} {β : Nat} {cs : List AV} (h : BX P ρ base σ w β cs) (hp : cs.all AV.plain = true) : ∃ vs e, w.heap[β]? = some (.cells vs e (0, 0)) ∧ RAs ρ base σ w cs vs.toList := by
 cases h with
 | cells vs e h1 h2 => exact ⟨vs, e, h1, h2⟩
 | map k e u l h1 h2 => rw [h1] at hp; simp [AV.plain] at hp
 | iter s p h1 h2 => rw [h1] at hp; simp [AV.plain] at hp
 | rows u l vs e h1 h2 h3 => rw [h1] at hp; simp [AV.plain] at hp
 | build i T l h1 h2 => rw [h1] at hp; simp [AV.plain] at hp
 | fresh e h1 h2 => rw [h1] at hp; simp [AV.plain] at hp
theorem BX.keys {P : Program} {ρ : Env} {base : Nat} {σ : Nat → Nat → Prop} {w : World} {β : Nat} {k e : TypeId} {u : Ty} {l : List (El u)} (h : BX P ρ base σ w β [.keys k e u l]) : Keyed P w β k e u l := by
 cases h with
 | cells vs e _ h2 =>
  obtain ⟨v, r, _, g, _⟩ := h2
  exact g.elim
 | map k' e' u' l' h1 h2 =>
  simp only [List.cons.injEq, AV.keys.injEq, and_true] at h1
  obtain ⟨rfl, rfl, rfl, h1⟩ := h1
  rw [eq_of_heq h1]; exact h2
 | iter s p h1 _ => simp at h1
 | rows u l vs e h1 => simp at h1
 | build i T l h1 => simp at h1
 | fresh e h1 => simp at h1
theorem BX.itr {P : Program} {ρ : Env} {base : Nat} {σ : Nat → Nat → Prop} {w : World} {β : Nat} {s : ByteArray} {p : Nat} (h : BX P ρ base σ w β [.itr s p]) : w.heap[β]? = some (.stringIter s p) := by
 cases h with
 | cells vs e _ h2 =>
  obtain ⟨v, r, _, g, _⟩ := h2
  exact g.elim
 | map k' e' u' l' h1 h2 => simp at h1
 | iter s' p' h1 h2 =>
  simp only [List.cons.injEq, AV.itr.injEq, and_true] at h1
  obtain ⟨rfl, rfl⟩ := h1; exact h2
 | rows u l vs e h1 => simp at h1
 | build i T l h1 => simp at h1
 | fresh e h1 => simp at h1
theorem BX.row {P : Program} {ρ : Env} {base : Nat} {σ : Nat → Nat → Prop} {w : World} {β : Nat} {u : Ty} {l : List (El u)} (h : BX P ρ base σ w β [.row u l]) : ∃ vs e, w.heap[β]? = some (.cells vs e (0, 0)) ∧ RLs (RE σ w u) l vs.toList := by
 cases h with
 | cells vs e _ h2 =>
  obtain ⟨v, r, _, g, _⟩ := h2
  exact g.elim
 | map k' e' u' l' h1 h2 => simp at h1
 | iter s' p' h1 h2 => simp at h1
 | rows u' l' vs e h1 h2 h3 =>
  simp only [List.cons.injEq, AV.row.injEq, and_true] at h1
  obtain ⟨rfl, h1⟩ := h1
  rw [eq_of_heq h1]
  exact ⟨vs, e, h2, h3⟩
 | build i T l h1 => simp at h1
 | fresh e h1 => simp at h1
theorem BX.bld {P : Program} {ρ : Env} {base : Nat} {σ : Nat → Nat → Prop} {w : World} {β : Nat} {i : Option Nat} {T : TypeId} {l : List Int} (h : BX P ρ base σ w β [.bld i T l]) : Bld P ρ base σ w β i T l := by
 cases h with
 | cells vs e _ h2 =>
  obtain ⟨v, r, _, g, _⟩ := h2
  exact g.elim
 | map k' e' u' l' h1 h2 => simp at h1
 | iter s' p' h1 h2 => simp at h1
 | rows u' l' vs e h1 h2 h3 => simp at h1
 | build i' T' l' h1 h2 =>
  simp only [List.cons.injEq, AV.bld.injEq, and_true] at h1
  obtain ⟨rfl, rfl, rfl⟩ := h1; exact h2
 | fresh e h1 => simp at h1
theorem BX.new {P : Program} {ρ : Env} {base : Nat} {σ : Nat → Nat → Prop} {w : World} {β : Nat} {e : TypeId} (h : BX P ρ base σ w β [.bld0 e]) : w.heap[β]? = some (.cells #[.pointer none, .slice none 0 0] e (0, 0)) := by
 cases h with
 | cells vs e _ h2 =>
  obtain ⟨v, r, _, g, _⟩ := h2
  exact g.elim
 | map k' e' u' l' h1 h2 => simp at h1
 | iter s' p' h1 h2 => simp at h1
 | rows u' l' vs e h1 h2 h3 => simp at h1
 | build i' T' l' h1 h2 => simp at h1
 | fresh e' h1 h2 =>
  simp only [List.cons.injEq, AV.bld0.injEq, and_true] at h1
  obtain rfl := h1; exact h2
structure HR (P : Program) (w0 : World) (σ0 : Nat → Nat → Prop) (ρ : Env) (σ : Nat → Nat → Prop) (bx : Nat → Option (List AV)) (al : List Bool) (w : World) : Prop where
 below : Below w0.heap.size w0 w
 fits : Fits σ w
 sub : ∀ b o, σ0 b o → σ b o
 old : ∀ b o, σ b o → σ0 b o ∨ w0.heap.size ≤ b
 box : ∀ b cs, bx b = some cs → ∃ β, ρ.φ b = some β ∧ BX P ρ w0.heap.size σ w β cs
 phi : ∀ b β, ρ.φ b = some β → (bx b).isSome = true ∧ w0.heap.size ≤ β ∧ β < w.heap.size ∧ ∀ o, ¬ σ β o
 inj : ∀ b b' β, ρ.φ b = some β → ρ.φ b' = some β → b = b'
 own : ∀ i β, ρ.own i = some (some β) → w0.heap.size ≤ β ∧ β < w.heap.size ∧ ∀ b, ρ.φ b ≠ some β
 ownj : ∀ i j β, ρ.own i = some (some β) → ρ.own j = some (some β) → i = j
 lim : ∀ i ow, ρ.own i = some ow → i < al.length
 no : ρ.no = al.length
 alive : ∀ i, al[i]? = some true → ∃ ow, ρ.own i = some ow
 frz : ∀ β, ρ.fr.set β → β < w.heap.size ∧ w.heap[β]? = ρ.fr.w.heap[β]? ∧ ∀ o, σ β o → ρ.fr.σ β o
 frφ : ∀ b β, ρ.φ b = some β → ¬ ρ.fr.set β
 fro : ∀ i β, ρ.own i = some (some β) → ¬ ρ.fr.set β
 pin : ∀ b β, ρ.fr.pin b = some β → ρ.φ b = some β
theorem HR.size {bx al} (h : HR P w0 σ0 ρ σ bx al w) : w0.heap.size ≤ w.heap.size := h.below.size
theorem HR.mono {bx al} (h : HR P w0 σ0 ρ σ bx al w) {σ' : Nat → Nat → Prop} {w' : World} (g : Grow σ w σ' w') : Mono ρ σ w ρ σ' w' :=
 ⟨g.keeps h.fits, fun _ _ x => x, Nat.le_refl _, fun i ow _ x => ⟨x, fun β e => by
  subst e
  have hb := (h.own i β x).2.1
  exact ⟨fun o hs => (g.new β o hs).resolve_right (by omega), fun cs e f hc => by rw [g.below.block β hb]; exact hc⟩⟩, rfl⟩
theorem HR.grow {bx al} (h : HR P w0 σ0 ρ σ bx al w) {σ' : Nat → Nat → Prop} {w' : World} (g : Grow σ w σ' w') : HR P w0 σ0 ρ σ' bx al w' where
 below := h.below.trans (g.below.mono h.size)
 fits := g.lt
 sub := fun b o x => g.sig b o (h.sub b o x)
 old := fun b o x => (g.new b o x).elim (h.old b o) fun y => .inr (Nat.le_trans h.size y)
 box := fun b cs x => by
  obtain ⟨β, h1, h2⟩ := h.box b cs x
  exact ⟨β, h1, h2.mono (h.mono g) (g.below.block β (h.phi b β h1).2.2.1)⟩
 phi := fun b β x => by
  obtain ⟨h1, h2, h3, h4⟩ := h.phi b β x
  exact ⟨h1, h2, Nat.lt_of_lt_of_le h3 g.below.size, fun o hs => (g.new β o hs).elim (h4 o) fun hh => by omega⟩
 inj := h.inj
 own := fun i β x => by obtain ⟨h1, h2, h3⟩ := h.own i β x; exact ⟨h1, Nat.lt_of_lt_of_le h2 g.below.size, h3⟩
 ownj := h.ownj
 lim := h.lim
 no := h.no
 alive := h.alive
 frz := fun β x => by
  obtain ⟨h1, h2, h3⟩ := h.frz β x
  exact ⟨Nat.lt_of_lt_of_le h1 g.below.size, (g.below.block β h1).trans h2, fun o hs => (g.new β o hs).elim (h3 o) fun hh => by omega⟩
 frφ := h.frφ
 fro := h.fro
 pin := h.pin
theorem HR.congr {bx bx' : Nat → Option (List AV)} {al} (h : HR P w0 σ0 ρ σ bx al w) (e : ∀ b, bx b = bx' b) : HR P w0 σ0 ρ σ bx' al w := by
 have : bx = bx' := funext e
 subst this; exact h
theorem cellsAt_sound {bx al} {s : St} (h : HR P w0 σ0 ρ σ bx al w) {a : AV} (hs : ∀ b cs β, (∃ i, a = .ptr b i) → ρ.φ b = some β → s.boxes[b]? = some cs → bx b = some cs) {v : Value} {n : Nat} {cs : List AV} (hc : cellsAt s a n = some cs) (g : RA ρ w0.heap.size σ w a v) :
  ∃ β o us, v = .pointer (some ⟨β, o, none⟩) ∧ us.length = n ∧ RAs ρ w0.heap.size σ w cs us ∧ ∀ j u, us[j]? = some u → w.cell? ⟨β, o + j, none⟩ = some u := by
 unfold cellsAt at hc
 split at hc
 ·rename_i b i
  split at hc
  ·rename_i bs hb
   split at hc
   ·rename_i hle
    obtain rfl := Option.some.inj hc
    obtain ⟨β', h1', e2⟩ := g
    obtain ⟨β, h1, hbx⟩ := h.box b bs (hs b bs β' ⟨i, rfl⟩ h1' hb)
    obtain ⟨vs, e, h2, h3⟩ := hbx.plain hle.2
    rw [h1] at h1'
    obtain rfl := Option.some.inj h1'
    refine ⟨β, i, (vs.toList.drop i).take n, e2, ?_, (h3.drop i).take n, fun j u hu => ?_⟩
    ·have := h3.length; rw [List.length_take, List.length_drop, this]; omega
    ·rw [cell_of_row w β (i + j) vs e (0, 0) h2, ← Array.getElem?_toList]
     rw [List.getElem?_take] at hu
     split at hu
     ·rw [List.getElem?_drop] at hu; exact hu
     ·cases hu
   ·cases hc
  ·cases hc
 ·rename_i t x i
  split at hc
  ·rename_i hle
   obtain rfl := Option.some.inj hc
   obtain ⟨β, o, vs, e1, e2, e3⟩ := g
   have hra := RE.ra (ρ := ρ) (base := w0.heap.size) e2
   refine ⟨β, o + i, (vs.drop i).take n, e1, ?_, (hra.drop i).take n, fun j u hu => ?_⟩
   ·have := hra.length; rw [List.length_take, List.length_drop, this]; omega
   ·rw [List.getElem?_take] at hu
    split at hu
    ·rw [List.getElem?_drop] at hu
     have := (e3 (i + j) u hu).2
     rw [Nat.add_assoc]; exact this
    ·cases hu
  ·cases hc
 ·cases hc
theorem load_yields {C : Ctx} (hT : TabOk P C.T) {bx al} {s : St} {K : AV → Option R} (h : HR P w0 σ0 ρ σ bx al w) {a : AV} (hs : ∀ b cs β, (∃ i, a = .ptr b i) → ρ.φ b = some β → s.boxes[b]? = some cs → bx b = some cs) {t : TypeId} {v : Value} (hl : xload C s t a K = some r) (g : RA ρ w0.heap.size σ w a v) :
  Yields P ρ w0.heap.size σ w K r (Instr.loadAt t v) := by
 unfold xload at hl
 split at hl
 ·rename_i cs hc
  obtain ⟨β, o, us, rfl, h1, h2, h3⟩ := cellsAt_sound h hs hc g
  have hne : (C.ti t).d ≠ .other := fun e => by unfold partOf at hl; rw [e] at hl; cases hl
  obtain ⟨i, z, kn⟩ := known (P := P) hT hne
  have ha := isAgg_of (P := P) kn.desc hne w
  have hsz := kn.sizeOf w
  obtain ⟨av, u, p1, p2, p3⟩ := partOf_sound (vs := us.toArray) hT hl (by simpa using h2)
  refine ⟨av, u, ?_, p2, p3⟩
  have hcells : (loadCells ⟨β, o, none⟩ (C.ti t).size).run P w = .ok us.toArray w := by
   rw [← h1]; exact run_loadCells_list (P := P) w ⟨β, o, none⟩ us (fun j u hu => by rw [addr_add]; exact h3 j u hu)
  cases hg : (C.ti t).d.isAgg with
  | true =>
   rw [hg] at ha
   simp only [part, Sem.run_bind, ha, Result.andThen_ok, if_true, hsz, Sem.run_pure] at p1
   simp only [Instr.loadAt, Instr.sureAddr, loadVar, Sem.run_bind, Sem.run_pure, Result.andThen_ok, ha, if_true, hsz, hcells]
   rw [← p1]
   congr 2
   apply Array.ext'
   simp [Array.toList_extract, List.extract_eq_take_drop, ← h1]
  | false =>
   rw [hg] at ha
   simp only [part, Sem.run_bind, ha, Result.andThen_ok, Bool.false_eq_true, if_false] at p1
   cases hu : us[0]? with
   | none => rw [show us.toArray[0]? = us[0]? by simp, hu] at p1; cases p1
   | some u' =>
    rw [show us.toArray[0]? = us[0]? by simp, hu] at p1
    have hc0 := h3 0 u' hu
    rw [Nat.add_zero] at hc0
    simp only [Instr.loadAt, Instr.sureAddr, loadVar, Sem.run_bind, Sem.run_pure, Result.andThen_ok, ha, Bool.false_eq_true, if_false, run_load, hc0]
    exact p1
 ·cases hl
variable {P : Program} {R : Type} {w0 : World} {σ0 : Nat → Nat → Prop} {ρ : Env} {σ : Nat → Nat → Prop} {w : World} {r : R}
theorem HR.newObj {bx al} (h : HR P w0 σ0 ρ σ bx al w) {b0 : Nat} (hb : bx b0 = none) {cs : List AV} (ob : Obj) (g : ∀ ρ', Mono ρ σ w ρ' σ (w.alloc ob) → BX P ρ' w0.heap.size σ (w.alloc ob) w.heap.size cs) :
  Mono ρ σ w { ρ with φ := fun b => if b = b0 then some w.heap.size else ρ.φ b } σ (w.alloc ob) ∧
  HR P w0 σ0 { ρ with φ := fun b => if b = b0 then some w.heap.size else ρ.φ b } σ (fun b => if b = b0 then some cs else bx b) al (w.alloc ob) := by
 have hg : Grow σ w σ (w.alloc ob) := ⟨(Below.refl _ w).alloc (Nat.le_refl _) _, fun _ _ h => h, fun _ _ h => .inl h, fun b o x => by rw [World.size_alloc]; have := h.fits b o x; omega⟩
 have h0 : ρ.φ b0 = none := by
  cases hp : ρ.φ b0 with
  | none => rfl
  | some β => have := (h.phi b0 β hp).1; rw [hb] at this; cases this
 have hm0 := h.mono hg
 have hm : Mono ρ σ w { ρ with φ := fun b => if b = b0 then some w.heap.size else ρ.φ b } σ (w.alloc ob) :=
  ⟨hm0.toKeeps, fun b β x => by
   show (if b = b0 then some w.heap.size else ρ.φ b) = some β
   rw [if_neg (fun e => by rw [e, h0] at x; cases x)]; exact x, Nat.le_refl _, hm0.own, rfl⟩
 refine ⟨hm, ?_⟩
 have hh := h.grow hg
 refine ⟨hh.below, hh.fits, hh.sub, hh.old, fun b cs' x => ?_, fun b β x => ?_, fun b b' β x y => ?_, fun i β x => ?_, hh.ownj, hh.lim, hh.no, hh.alive, hh.frz, fun b β x => ?_, hh.fro, fun b β x => ?_⟩
 ·split at x
  ·rename_i hbb
   obtain rfl := Option.some.inj x
   exact ⟨w.heap.size, by show (if b = b0 then _ else _) = _; rw [if_pos hbb], g _ hm⟩
  ·rename_i hbb
   obtain ⟨β, h1, h2⟩ := h.box b cs' x
   exact ⟨β, by show (if b = b0 then _ else _) = _; rw [if_neg hbb]; exact h1, h2.mono hm (heap_alloc_old w _ (h.phi b β h1).2.2.1)⟩
 ·change (if b = b0 then some w.heap.size else ρ.φ b) = some β at x
  split at x
  ·rename_i hbb
   obtain rfl := Option.some.inj x
   exact ⟨by rw [if_pos hbb]; rfl, h.size, by rw [World.size_alloc]; omega, fun o hs => by have := h.fits _ o hs; omega⟩
  ·rename_i hbb
   obtain ⟨h1, h2, h3, h4⟩ := h.phi b β x
   exact ⟨by rw [if_neg hbb]; exact h1, h2, by rw [World.size_alloc]; omega, h4⟩
 ·change (if b = b0 then some w.heap.size else ρ.φ b) = some β at x
  change (if b' = b0 then some w.heap.size else ρ.φ b') = some β at y
  split at x <;> split at y
  ·rename_i e1 e2; rw [e1, e2]
  ·obtain rfl := Option.some.inj x
   have := (h.phi b' _ y).2.2.1; omega
  ·obtain rfl := Option.some.inj y
   have := (h.phi b _ x).2.2.1; omega
  ·exact h.inj b b' β x y
 ·obtain ⟨h1, h2, h3⟩ := h.own i β x
  refine ⟨h1, by rw [World.size_alloc]; omega, fun b y => ?_⟩
  change (if b = b0 then some w.heap.size else ρ.φ b) = some β at y
  split at y
  ·obtain rfl := Option.some.inj y; omega
  ·exact h3 b y
 ·change (if b = b0 then some w.heap.size else ρ.φ b) = some β at x
  split at x
  ·obtain rfl := Option.some.inj x
   exact fun hf => by have := (h.frz _ hf).1; omega
  ·exact h.frφ b β x
 ·have hx := h.pin b β x
  show (if b = b0 then some w.heap.size else ρ.φ b) = some β
  rw [if_neg (fun e => by rw [e, h0] at hx; cases hx)]; exact hx
theorem HR.newBox {bx al} (h : HR P w0 σ0 ρ σ bx al w) {b0 : Nat} (hb : bx b0 = none) {cs : List AV} {vs : Array Value} (e : TypeId) (g : RAs ρ w0.heap.size σ w cs vs.toList) :
  Mono ρ σ w { ρ with φ := fun b => if b = b0 then some w.heap.size else ρ.φ b } σ (w.alloc (.cells vs e)) ∧
  HR P w0 σ0 { ρ with φ := fun b => if b = b0 then some w.heap.size else ρ.φ b } σ (fun b => if b = b0 then some cs else bx b) al (w.alloc (.cells vs e)) :=
 h.newObj hb (.cells vs e) fun _ hm => .cells vs e (heap_alloc_new w _) (RAs.mono hm _ g)
theorem HR.setBox {bx al} (h : HR P w0 σ0 ρ σ bx al w) {b β : Nat} (hp : ρ.φ b = some β) {us vs : Array Value} {e : TypeId} (hu : w.heap[β]? = some (.cells us e (0, 0))) {cs : List AV} (g : RAs ρ w0.heap.size σ w cs vs.toList) :
  Mono ρ σ w ρ σ (w.setRow β vs) ∧ HR P w0 σ0 ρ σ (fun x => if x = b then some cs else bx x) al (w.setRow β vs) := by
 obtain ⟨p1, p2, p3, p4⟩ := h.phi b β hp
 have hoth : ∀ k, k ≠ β → (w.setRow β vs).heap[k]? = w.heap[k]? := fun k hk => setRow_other w β k vs hk
 have hm : Mono ρ σ w ρ σ (w.setRow β vs) := ⟨⟨fun _ _ x => x, fun c o v hs hc => by
   rw [cell_setRow_other w β vs ⟨c, o, none⟩ (fun e => p4 o (by rw [← (show c = β from e)]; exact hs))]; exact hc⟩, fun _ _ x => x, Nat.le_refl _, fun i ow _ x => ⟨x, fun γ eg => ⟨fun _ x => x, fun cs' e' f hc => by
   subst eg
   rw [hoth γ (fun e => (h.own i γ x).2.2 b (by rw [hp, e]))]; exact hc⟩⟩, rfl⟩
 refine ⟨hm, ⟨h.below.trans ⟨rfl, rfl, rfl, by simp, fun k hk => hoth k (by omega)⟩, fun c o x => by simpa using h.fits c o x, h.sub, h.old, fun c cs' x => ?_, fun c γ x => ?_, h.inj, fun i γ x => ?_, h.ownj, h.lim, h.no, h.alive, fun γ x => ⟨by simpa using (h.frz γ x).1, (hoth γ (fun e => h.frφ b β hp (by rw [← e]; exact x))).trans (h.frz γ x).2.1, (h.frz γ x).2.2⟩, h.frφ, h.fro, h.pin⟩⟩
 ·split at x
  ·rename_i hcb
   obtain rfl := Option.some.inj x
   exact ⟨β, by rw [hcb]; exact hp, .cells vs e (setRow_heap w β us vs e (0, 0) hu) (RAs.mono hm _ g)⟩
  ·rename_i hcb
   obtain ⟨γ, h1, h2⟩ := h.box c cs' x
   exact ⟨γ, h1, h2.mono hm (hoth γ (fun e => hcb (h.inj c b β (by rw [← e]; exact h1) hp)))⟩
 ·obtain ⟨h1, h2, h3, h4⟩ := h.phi c γ x
  refine ⟨?_, h2, by simpa using h3, h4⟩
  show (if c = b then some cs else bx c).isSome = true
  split
  ·rfl
  ·exact h1
 ·obtain ⟨h1, h2, h3⟩ := h.own i γ x; exact ⟨h1, by simpa using h2, h3⟩
theorem HR.turn {bx al} (h : HR P w0 σ0 ρ σ bx al w) {b β : Nat} {w' : World} (hp : ρ.φ b = some β) (hg : w.grownBy w' (some β)) {cs : List AV} (g : Mono ρ σ w ρ σ w' → BX P ρ w0.heap.size σ w' β cs) :
  Mono ρ σ w ρ σ w' ∧ HR P w0 σ0 ρ σ (fun x => if x = b then some cs else bx x) al w' := by
 obtain ⟨p1, p2, p3, p4⟩ := h.phi b β hp
 have hoth : ∀ k, k < w.heap.size → k ≠ β → w'.heap[k]? = w.heap[k]? := fun k hl hk => hg.block k hl (fun e => hk (Option.some.inj e))
 have hm : Mono ρ σ w ρ σ w' := ⟨⟨fun _ _ x => x, fun c o v hs hc => by
   rw [World.cell?_of_block (w := w) (hoth c (h.fits c o hs) (fun e => p4 o (by rw [← e]; exact hs)))]; exact hc⟩, fun _ _ x => x, Nat.le_refl _, fun i ow _ x => ⟨x, fun γ eg => ⟨fun _ x => x, fun cs' e' f hc => by
   subst eg
   rw [hoth γ (h.own i γ x).2.1 (fun e => (h.own i γ x).2.2 b (by rw [hp, e]))]; exact hc⟩⟩, rfl⟩
 refine ⟨hm, ⟨h.below.trans ⟨hg.os, hg.tape, hg.output, hg.size, fun k hk => hoth k (Nat.lt_of_lt_of_le hk h.size) (by omega)⟩, fun c o x => Nat.lt_of_lt_of_le (h.fits c o x) hg.size, h.sub, h.old, fun c cs' x => ?_, fun c γ x => ?_, h.inj, fun i γ x => ?_, h.ownj, h.lim, h.no, h.alive, fun γ x => ⟨Nat.lt_of_lt_of_le (h.frz γ x).1 hg.size, (hoth γ (h.frz γ x).1 (fun e => h.frφ b β hp (by rw [← e]; exact x))).trans (h.frz γ x).2.1, (h.frz γ x).2.2⟩, h.frφ, h.fro, h.pin⟩⟩
 ·split at x
  ·rename_i hcb
   obtain rfl := Option.some.inj x
   exact ⟨β, by rw [hcb]; exact hp, g hm⟩
  ·rename_i hcb
   obtain ⟨γ, h1, h2⟩ := h.box c cs' x
   exact ⟨γ, h1, h2.mono hm (hoth γ (h.phi c γ h1).2.2.1 (fun e => hcb (h.inj c b β (by rw [← e]; exact h1) hp)))⟩
 ·obtain ⟨h1, h2, h3, h4⟩ := h.phi c γ x
  refine ⟨?_, h2, Nat.lt_of_lt_of_le h3 hg.size, h4⟩
  show (if c = b then some cs else bx c).isSome = true
  split
  ·rfl
  ·exact h1
 ·obtain ⟨h1, h2, h3⟩ := h.own i γ x; exact ⟨h1, Nat.lt_of_lt_of_le h2 hg.size, h3⟩
theorem HR.newOwn {bx al} (h : HR P w0 σ0 ρ σ bx al w) {w' : World} (hb : Below w.heap.size w w') {t : Ty} {l : List (El t)} {n cap : Nat} {e : TypeId} {cs : List Value}
  (ho : w'.ownsRow w0.heap.size e t.sz (.slice (some ⟨w.heap.size, 0, none⟩) n cap) n cs) (hl : l.length = n) (hr : RLs (RE σ w t) l cs) (hsz : w.heap.size < w'.heap.size) :
  ∃ ρ' σ', Mono ρ σ w ρ' σ' w' ∧ HR P w0 σ0 ρ' σ' bx (al ++ [true]) w' ∧ RA ρ' w0.heap.size σ' w' (.sl (some al.length) t l) (.slice (some ⟨w.heap.size, 0, none⟩) n cap) := by
 subst hl
 have hg : Grow σ w (fun b o => σ b o ∨ (b = w.heap.size ∧ o < l.length * t.sz)) w' :=
  ⟨hb, fun _ _ x => .inl x, fun b o x => x.imp id fun x => by omega, fun b o x => x.elim (fun x => Nat.lt_of_lt_of_le (h.fits b o x) hb.size) fun x => by omega⟩
 have hm0 := h.mono hg
 have hm : Mono ρ σ w { ρ with own := fun i => if i = al.length then some (some w.heap.size) else ρ.own i, no := al.length + 1 } (fun b o => σ b o ∨ (b = w.heap.size ∧ o < l.length * t.sz)) w' := by
  refine ⟨hm0.toKeeps, hm0.phi, by show ρ.no ≤ al.length + 1; rw [h.no]; omega, fun i ow hi x => ?_, rfl⟩
  change (if i = al.length then some (some w.heap.size) else ρ.own i) = some ow at x
  rw [h.no] at hi
  rw [if_neg (by omega)] at x
  exact hm0.own i ow (by rw [h.no]; exact hi) x
 have hh := h.grow hg
 refine ⟨_, _, hm, ⟨hh.below, hh.fits, hh.sub, hh.old, fun b cs' x => ?_, hh.phi, hh.inj, fun i β x => ?_, fun i j β x y => ?_, fun i ow x => ?_, by simp, fun i x => ?_, hh.frz, hh.frφ, fun i β x => ?_, hh.pin⟩, ?_⟩
 ·obtain ⟨β, h1, h2⟩ := h.box b cs' x
  exact ⟨β, h1, h2.mono hm (hb.block β (h.phi b β h1).2.2.1)⟩
 ·change (if i = al.length then some (some w.heap.size) else ρ.own i) = some (some β) at x
  split at x
  ·simp only [Option.some.injEq] at x
   subst x
   exact ⟨h.size, hsz, fun b y => by have := (h.phi b _ y).2.2.1; omega⟩
  ·obtain ⟨h1, h2, h3⟩ := h.own i β x; exact ⟨h1, by omega, h3⟩
 ·change (if i = al.length then some (some w.heap.size) else ρ.own i) = some (some β) at x
  change (if j = al.length then some (some w.heap.size) else ρ.own j) = some (some β) at y
  split at x <;> split at y
  ·omega
  ·simp only [Option.some.injEq] at x; subst x; have := (h.own j _ y).2.1; omega
  ·simp only [Option.some.injEq] at y; subst y; have := (h.own i _ x).2.1; omega
  ·exact h.ownj i j β x y
 ·change (if i = al.length then some (some w.heap.size) else ρ.own i) = some ow at x
  rw [List.length_append]
  split at x
  ·simp; omega
  ·have := h.lim i ow x; simp; omega
 ·show ∃ ow, (if i = al.length then some (some w.heap.size) else ρ.own i) = some ow
  split
  ·exact ⟨_, rfl⟩
  ·rename_i hne
   rw [List.getElem?_append] at x
   split at x
   ·exact h.alive i x
   ·rename_i hge
    have := (List.getElem?_eq_some_iff.1 x).1
    simp at this; omega
 ·change (if i = al.length then some (some w.heap.size) else ρ.own i) = some (some β) at x
  split at x
  ·simp only [Option.some.injEq] at x
   subst x
   exact fun hf => by have := (h.frz _ hf).1; omega
  ·exact h.fro i β x
 ·have hcs : ∀ j v, cs[j]? = some v → w'.cell? ⟨w.heap.size, j, none⟩ = some v := fun j v hv => by
   have hj : j < l.length * t.sz := by rw [← ho.1]; exact (List.getElem?_eq_some_iff.1 hv).1
   rw [ho.cellAt j hj]; exact hv
  have hrl : RLs (RE (fun b o => σ b o ∨ (b = w.heap.size ∧ o < l.length * t.sz)) w' t) l cs := RLs.mono (fun _ _ => RE.mono hm0.toKeeps) hr
  have hcap : l.length ≤ cap := by
   rcases ho.2 with ⟨e1, _⟩ | ⟨g, c, cur, e1, _, _, e2, _⟩
   ·cases e1
   ·simp only [Value.slice.injEq] at e1; omega
  refine ⟨⟨_, cap, rfl, hcap, .inr ⟨w.heap.size, 0, cs, rfl, hrl, fun j v hv => ?_⟩⟩, fun i ei => ?_⟩
  ·rw [Nat.zero_add]
   exact ⟨.inr ⟨rfl, by rw [← ho.1]; exact (List.getElem?_eq_some_iff.1 hv).1⟩, hcs j v hv⟩
  ·obtain rfl := Option.some.inj ei
   refine ⟨Nat.lt_succ_self _, fun ow x => ?_⟩
   change (if al.length = al.length then some (some w.heap.size) else ρ.own al.length) = some ow at x
   rw [if_pos rfl] at x
   obtain rfl := Option.some.inj x
   refine ⟨rfl, e, cs, ho, hrl, fun β eb o => ?_⟩
   obtain rfl := Option.some.inj eb
   exact ⟨fun x => x.elim (fun x => by have := h.fits _ _ x; omega) fun x => x.2, fun x => .inr ⟨rfl, x⟩⟩
theorem room_run {t ty e e1 : TypeId} {i : TypeInfo} (ht : P.underlying t = some (.slice e)) (hi : P.info? e = some i)
  (g sLen sCap : Nat) (cur : Array Value) (hg : w.heap[g]? = some (.cells cur e1 (0, 0)))
  (a : Addr) (m c : Nat) (news : List Value) (hl : news.length = m * i.size) (hnews : ∀ j u, news[j]? = some u → w.cell? (a.add j) = some u) (h1 : ∀ u ∈ news, u.oneCell' = true)
  (hroom : sLen + m ≤ sCap) (hfit : sLen * i.size + news.length ≤ cur.size) :
  (Builtin.append_ #[t, t] ty #[.slice (some ⟨g, 0, none⟩) sLen sCap, .slice (some a) m c]).run P w =
   .ok (.slice (some ⟨g, 0, none⟩) (sLen + m) sCap) (w.setRow g (cur.toList.take (sLen * i.size) ++ news ++ cur.toList.drop (sLen * i.size + news.length)).toArray) := by
 have hf := run_firstCells_some (P := P) w i.size m a m c news hl hnews
 have hst := run_storeCells_at P g (sLen * i.size) e1 news 0 cur w hg (by simpa using hfit) h1
 simp only [Nat.add_zero] at hst
 simp [Builtin.append_, run_underlying ht, sizeOf, typeInfo, hi, Builtin.lenOf, hroom, hf, Addr.add_lit, hst]
theorem app_run {base : Nat} {t ty e e1 : TypeId} {i : TypeInfo} {z : Value} {size : Nat} (ht : P.underlying t = some (.slice e)) (hi : P.info? e = some i) (hz : i.zero = some z) (hsize : i.size = size) (hzs : z.cells.size = size) (hsz : 0 < size)
  {v : Value} {n : Nat} {xs : List Value} (hown : w.ownsRow base e1 size v n xs) {src : Value} {m c : Nat} {news : List Value} {A : Option Addr} (hsrc : src = .slice A m c) (hA : (A = none ∧ m = 0) ∨ ∃ a, A = some a ∧ ∀ j u, news[j]? = some u → w.cell? (a.add j) = some u)
  (hl : news.length = m * size) (h1 : ∀ u ∈ news, u.oneCell' = true) (hbytes : (n + m) * i.bytes ≤ 140737488355328) (h63 : n + m ≤ maxLen) (hbase : base ≤ w.heap.size) :
  ∃ v' w' e2, (Builtin.append_ #[t, t] ty #[v, src]).run P w = .ok v' w' ∧ w'.ownsRow base e2 size v' (n + m) (xs ++ news) ∧ w.grownBy w' v.ownBlock ∧
   ((v'.ownBlock = some w.heap.size ∧ w.heap.size < w'.heap.size ∧ ∀ k, k < w.heap.size → w'.heap[k]? = w.heap[k]?) ∨ v'.ownBlock = v.ownBlock) := by
 subst hsrc
 rcases hA with ⟨rfl, rfl⟩ | ⟨a, rfl, hnews⟩
 ·have hn : news = [] := List.eq_nil_of_length_eq_zero (by simpa using hl)
  subst hn
  refine ⟨v, w, e1, ?_, by simpa using hown, ⟨rfl, rfl, rfl, Nat.le_refl _, fun _ _ _ => rfl⟩, .inr rfl⟩
  rcases hown.2 with ⟨rfl, rfl⟩ | ⟨g, cap, cur, rfl, _, _, hnc, _⟩
  ·simp [Builtin.append_, run_underlying ht, sizeOf, typeInfo, hi, Builtin.lenOf, Builtin.firstCells]
  ·simp [Builtin.append_, run_underlying ht, sizeOf, typeInfo, hi, Builtin.lenOf, Builtin.firstCells, hnc, storeCells]
 subst hsize
 have hsmall : n + m ≤ 9223372036854775807 := by simp only [maxLen] at h63; omega
 have hlen : (xs ++ news).length = (n + m) * i.size := by rw [List.length_append, hown.1, hl, Nat.add_mul]
 have grown : ∀ (old : Nat), old < n + m → ∀ (row : Option Nat),
   (w.drew.alloc (.cells (xs.toArray ++ news.toArray ++ Builtin.zeroCells z.cells (grownCap w (n + m) old e - (n + m))) e)).ownsRow base e i.size
    (.slice (some ⟨w.heap.size, 0, none⟩) (n + m) (grownCap w (n + m) old e)) (n + m) (xs ++ news) ∧
   w.grownBy (w.drew.alloc (.cells (xs.toArray ++ news.toArray ++ Builtin.zeroCells z.cells (grownCap w (n + m) old e - (n + m))) e)) row := by
  intro old ho row
  have hge := grownCap_ge w (n + m) old e
  have hcm : grownCap w (n + m) old e ≤ maxLen := grownCap_le_maxLen w (n + m) old e h63
  refine ⟨⟨hlen, .inr ⟨w.heap.size, _, _, rfl, hbase, heap_alloc_new w.drew _, hge, hcm, ?_, ?_⟩⟩, ⟨rfl, rfl, rfl, by simp, fun k hk _ => heap_alloc_old w.drew _ hk⟩⟩
  ·simp only [Array.size_append, List.size_toArray, size_zeroCells, hzs, hown.1, hl, ← Nat.add_mul]
   congr 1
   omega
  ·simp only [Array.toList_append, List.append_assoc]
   rw [← List.append_assoc, ← hlen]
   exact List.take_left
 rcases hown.2 with ⟨rfl, rfl⟩ | ⟨g, cap, cur, rfl, hbg, hg, hnc, hcm, hcs, htake⟩
 ·have hx : xs = [] := List.eq_nil_of_length_eq_zero (by simpa using hown.1)
  subst hx
  by_cases hm : m = 0
  ·subst hm
   have hn : news = [] := List.eq_nil_of_length_eq_zero (by simpa using hl)
   subst hn
   refine ⟨.slice none 0 0, w, e, ?_, World.ownsRow_nil w base e i.size, ⟨rfl, rfl, rfl, Nat.le_refl _, fun _ _ _ => rfl⟩, .inr rfl⟩
   simp [Builtin.append_, run_underlying ht, sizeOf, typeInfo, hi, Builtin.lenOf, Builtin.firstCells, loadCells, loadCellsFrom]
  ·have hr := run_append_nil (P := P) w t ty e i z ht hi hz a m c news hl hnews (by omega) (by omega) (by have hb := hbytes; simp only [Nat.zero_add] at hb; omega)
   have hgr := grown 0 (by omega) (Value.ownBlock (.slice none 0 0))
   simp only [Nat.zero_add, List.nil_append, Array.empty_append] at hgr ⊢
   exact ⟨_, _, _, hr, hgr.1, hgr.2, .inl ⟨rfl, by simp, fun k hk => heap_alloc_old w.drew _ hk⟩⟩
 ·by_cases hroom : n + m ≤ cap
  ·have hfit : n * i.size + news.length ≤ cur.size := by rw [hl, hcs, ← Nat.add_mul]; exact Nat.mul_le_mul_right _ hroom
   have hr := room_run (P := P) (w := w) (ty := ty) ht hi g n cap cur hg a m c news hl hnews h1 hroom hfit
   refine ⟨_, _, e1, hr, ⟨hlen, .inr ⟨g, cap, _, rfl, hbg, setRow_heap w g cur _ e1 _ hg, hroom, hcm, ?_, ?_⟩⟩, ⟨rfl, rfl, rfl, by simp, fun k _ hk => setRow_other w g k _ (fun e => hk (by simp [Value.ownBlock, e]))⟩, .inr rfl⟩
   ·simp only [List.size_toArray, List.length_append, List.length_take, List.length_drop, Array.length_toList]
    omega
   ·rw [htake, ← hlen]
    exact List.take_left
  ·have holds : ∀ j u, xs[j]? = some u → w.cell? ((⟨g, 0, none⟩ : Addr).add j) = some u := hown.cells (g := g) rfl
   have hr := run_append_grow (P := P) w t ty e i z ht hi hz ⟨g, 0, none⟩ n cap xs hown.1 holds a m c news hl hnews (by omega) (by omega) (growslice_fits (by omega) hbytes)
   have hgr := grown cap (by omega) (Value.ownBlock (.slice (some ⟨g, 0, none⟩) n cap))
   exact ⟨_, _, _, hr, hgr.1, hgr.2, .inl ⟨rfl, by simp, fun k hk => heap_alloc_old w.drew _ hk⟩⟩
theorem RE.one : ∀ {t : Ty} {x : El t} {vs : List Value}, RE σ w t x vs → ∀ u ∈ vs, u.oneCell' = true
 | .int _, _, _, g, u, hu => by rw [show _ = _ from g] at hu; simp at hu; subst hu; rfl
 | .bool, _, _, g, u, hu => by rw [show _ = _ from g] at hu; simp at hu; subst hu; rfl
 | .str, _, _, g, u, hu => by rw [show _ = _ from g] at hu; simp at hu; subst hu; rfl
 | .unit, _, _, g, u, hu => by rw [show _ = _ from g] at hu; cases hu
 | .pair _ _, _, _, ⟨a, b, e, g, k⟩, u, hu => by rw [e] at hu; exact (List.mem_append.1 hu).elim (RE.one g u) (RE.one k u)
 | .sl _, _, _, ⟨A, c, e, g, k⟩, u, hu => by rw [e] at hu; simp at hu; subst hu; rfl
theorem RLs.one {t : Ty} : ∀ {l : List (El t)} {cs : List Value}, RLs (RE σ w t) l cs → ∀ u ∈ cs, u.oneCell' = true
 | [], _, h, u, hu => by rw [show _ = _ from h] at hu; cases hu
 | _ :: _, _, ⟨a, b, e, g, k⟩, u, hu => by rw [e] at hu; exact (List.mem_append.1 hu).elim (RE.one g u) (RLs.one k u)
theorem listOf_sound {t : Ty} {a : AV} {l : List (El t)} {v : Value} {base : Nat} (h : listOf t a = some l) (g : RA ρ base σ w a v) : RE σ w (.sl t) l [v] := by
 unfold listOf at h
 split at h
 ·rename_i o u m
  split at h
  ·rename_i hp _
   cases hp
   obtain rfl := Option.some.inj h
   exact g.1
  ·cases h
 ·obtain rfl := Option.some.inj h
  exact ⟨none, 0, by rw [show v = _ from g]; rfl, Nat.le_refl _, .inl rfl⟩
 ·obtain rfl := Option.some.inj h
  obtain ⟨A, g1, g3⟩ := g
  exact ⟨A, 0, by rw [g1]; rfl, Nat.le_refl _, .inl rfl⟩
 ·cases h
variable {P : Program} {R : Type} {w0 : World} {σ0 : Nat → Nat → Prop} {ρ : Env} {σ : Nat → Nat → Prop} {w : World} {r : R}
def letFall (al : List Bool) : Option Nat → List Bool
 | none => al
 | some i => al.set i false
theorem HR.app {bx al} (h : HR P w0 σ0 ρ σ bx al w) {w' : World} {v v' : Value} {old : Option Nat} {t : Ty} {l m : List (El t)} {e e' : TypeId} {cs news : List Value}
  (hold : (old = none ∧ v.ownBlock = none) ∨ ∃ i, old = some i ∧ ρ.own i = some v.ownBlock) (hlow : ∀ β, v.ownBlock = some β → ∀ o, σ β o → o < l.length * t.sz)
  (ho : w.ownsRow w0.heap.size e t.sz v l.length cs) (hr : RLs (RE σ w t) l cs) (hn : RLs (RE σ w t) m news)
  (ho' : w'.ownsRow w0.heap.size e' t.sz v' (l.length + m.length) (cs ++ news)) (hg : w.grownBy w' v.ownBlock)
  (hc : (v'.ownBlock = some w.heap.size ∧ w.heap.size < w'.heap.size ∧ ∀ k, k < w.heap.size → w'.heap[k]? = w.heap[k]?) ∨ v'.ownBlock = v.ownBlock) :
  ∃ ρ' σ', Mono ρ σ w ρ' σ' w' ∧ HR P w0 σ0 ρ' σ' bx (letFall al old ++ [true]) w' ∧ RA ρ' w0.heap.size σ' w' (.sl (some (letFall al old).length) t (l ++ m)) v' := by
 have hlen : (letFall al old).length = al.length := by cases old <;> simp [letFall]
 have hoi : ∀ β, v.ownBlock = some β → ∃ i, old = some i ∧ ρ.own i = some (some β) := fun β e => by
  rcases hold with ⟨_, h2⟩ | ⟨i, h1, h2⟩
  ·rw [h2] at e; cases e
  ·exact ⟨i, h1, by rw [← e]; exact h2⟩
 have hv1 : ∀ β, v'.ownBlock = some β → v.ownBlock = some β ∨ (β = w.heap.size ∧ w.heap.size < w'.heap.size ∧ ∀ k, k < w.heap.size → w'.heap[k]? = w.heap[k]?) := fun β e => by
  rcases hc with ⟨h1, h2, h3⟩ | h1
  ·rw [h1] at e; exact .inr ⟨(Option.some.inj e).symm, h2, h3⟩
  ·exact .inl (by rw [← h1]; exact e)
 have hvs : v.ownBlock = none ∨ ∃ g cap, v = .slice (some ⟨g, 0, none⟩) l.length cap := by
  rcases ho.2 with ⟨rfl, _⟩ | ⟨g, cap, cur, rfl, _⟩
  ·exact .inl rfl
  ·exact .inr ⟨g, cap, rfl⟩
 have hkeep : ∀ b o u, σ b o → w.cell? ⟨b, o, none⟩ = some u → w'.cell? ⟨b, o, none⟩ = some u := by
  intro b o u hs hcell
  have hlt := h.fits b o hs
  by_cases hb : v.ownBlock = some b
  ·rcases hc with ⟨_, _, h3⟩ | h1
   ·rw [World.cell?_of_block (w := w) (h3 b hlt)]; exact hcell
   ·have hol := hlow b hb o hs
    rcases hvs with hvn | ⟨g, cap, hv⟩
    ·rw [hvn] at hb; cases hb
    ·have hgb : g = b := by rw [hv] at hb; simpa [Value.ownBlock] using hb
     subst hgb
     rw [hv] at ho
     rw [ho.cellAt o hol] at hcell
     rcases ho'.2 with ⟨e1, _⟩ | ⟨g', cap', cur', e1, _⟩
     ·rw [e1, hb] at h1; cases h1
     ·have hg' : g' = g := by rw [e1, hb] at h1; simpa [Value.ownBlock] using h1
      subst hg'
      rw [e1] at ho'
      rw [ho'.cellAt o (by rw [Nat.add_mul]; omega), List.getElem?_append_left (List.getElem?_eq_some_iff.1 hcell).1]
      exact hcell
  ·rw [World.cell?_of_block (w := w) (hg.block b hlt (fun e => hb e.symm))]; exact hcell
 have hlt' := fun β (e : v'.ownBlock = some β) => ho'.lt β e
 have hkeeps : Keeps σ (fun b o => σ b o ∨ (v'.ownBlock = some b ∧ o < (l.length + m.length) * t.sz)) w w' := ⟨fun _ _ x => .inl x, hkeep⟩
 have hm : Mono ρ σ w { ρ with own := fun k => if k = al.length then some v'.ownBlock else if some k = old then none else ρ.own k, no := al.length + 1 } (fun b o => σ b o ∨ (v'.ownBlock = some b ∧ o < (l.length + m.length) * t.sz)) w' := by
  refine ⟨hkeeps, fun _ _ x => x, by show ρ.no ≤ al.length + 1; rw [h.no]; omega, fun k ow hk x => ?_, rfl⟩
  rw [h.no] at hk
  change (if k = al.length then some v'.ownBlock else if some k = old then none else ρ.own k) = some ow at x
  rw [if_neg (by omega)] at x
  split at x
  ·cases x
  ·rename_i hne
   refine ⟨x, fun β eb => ?_⟩
   subst eb
   have hnv : v.ownBlock ≠ some β := fun e => by
    obtain ⟨i, h1, h2⟩ := hoi β e
    have := h.ownj k i β x h2
    exact hne (by rw [this, h1])
   have hbl := (h.own k β x).2.1
   refine ⟨fun o hs => hs.elim id fun hs => ?_, fun cs' e2 f hcc => by rw [hg.block β hbl (fun e => hnv e.symm)]; exact hcc⟩
   rcases hv1 β hs.1 with h1 | ⟨h1, _⟩
   ·exact absurd h1 hnv
   ·omega
 refine ⟨_, _, hm, ⟨?_, fun b o x => ?_, fun b o x => .inl (h.sub b o x), fun b o x => ?_, fun b cs' x => ?_, fun b β x => ?_, h.inj, fun i β x => ?_, fun i j β x y => ?_, fun i ow x => ?_, by rw [List.length_append, hlen]; rfl, fun i x => ?_, fun β x => ?_, h.frφ, fun i β x => ?_, h.pin⟩, ?_⟩
 ·refine h.below.trans ⟨hg.os, hg.tape, hg.output, hg.size, fun k hk => hg.block k (Nat.lt_of_lt_of_le hk h.size) (fun e => ?_)⟩
  obtain ⟨i, _, h2⟩ := hoi k e.symm
  have := (h.own i k h2).1; omega
 ·exact x.elim (fun x => Nat.lt_of_lt_of_le (h.fits b o x) hg.size) fun x => (hlt' b x.1).2
 ·exact x.elim (h.old b o) fun x => .inr (hlt' b x.1).1
 ·obtain ⟨β, h1, h2⟩ := h.box b cs' x
  exact ⟨β, h1, h2.mono hm (hg.block β (h.phi b β h1).2.2.1 (fun e => by obtain ⟨i, _, h5⟩ := hoi β e.symm; exact (h.own i β h5).2.2 b h1))⟩
 ·obtain ⟨h1, h2, h3, h4⟩ := h.phi b β x
  refine ⟨h1, h2, Nat.lt_of_lt_of_le h3 hg.size, fun o hs => hs.elim (h4 o) fun hs => ?_⟩
  rcases hv1 β hs.1 with h5 | ⟨h5, _⟩
  ·obtain ⟨i, _, h6⟩ := hoi β h5; exact (h.own i β h6).2.2 b x
  ·omega
 ·change (if i = al.length then some v'.ownBlock else if some i = old then none else ρ.own i) = some (some β) at x
  split at x
  ·have x := Option.some.inj x
   refine ⟨(hlt' β x).1, (hlt' β x).2, fun b y => ?_⟩
   rcases hv1 β x with h5 | ⟨h5, _⟩
   ·obtain ⟨i, _, h6⟩ := hoi β h5; exact (h.own i β h6).2.2 b y
   ·have := (h.phi b β y).2.2.1; omega
  ·split at x
   ·cases x
   ·obtain ⟨h1, h2, h3⟩ := h.own i β x; exact ⟨h1, Nat.lt_of_lt_of_le h2 hg.size, h3⟩
 ·change (if i = al.length then some v'.ownBlock else if some i = old then none else ρ.own i) = some (some β) at x
  change (if j = al.length then some v'.ownBlock else if some j = old then none else ρ.own j) = some (some β) at y
  have key : ∀ k, v'.ownBlock = some β → ¬ some k = old → ρ.own k = some (some β) → False := fun k e1 e2 e3 => by
   rcases hv1 β e1 with h5 | ⟨h5, _⟩
   ·obtain ⟨i, h7, h6⟩ := hoi β h5
    have := h.ownj k i β e3 h6
    exact e2 (by rw [this, h7])
   ·have := (h.own k β e3).2.1; omega
  split at x <;> split at y
  ·omega
  ·split at y
   ·cases y
   ·rename_i e1 e2 e3; exact (key j (Option.some.inj x) e3 y).elim
  ·split at x
   ·cases x
   ·rename_i e1 e2 e3; exact (key i (Option.some.inj y) e3 x).elim
  ·split at x <;> split at y
   ·cases x
   ·cases x
   ·cases y
   ·exact h.ownj i j β x y
 ·change (if i = al.length then some v'.ownBlock else if some i = old then none else ρ.own i) = some ow at x
  rw [List.length_append, hlen]
  split at x
  ·simp; omega
  ·split at x
   ·cases x
   ·have := h.lim i ow x; simp; omega
 ·show ∃ ow, (if i = al.length then some v'.ownBlock else if some i = old then none else ρ.own i) = some ow
  split
  ·exact ⟨_, rfl⟩
  ·rename_i hne
   rw [List.getElem?_append] at x
   split at x
   ·rename_i hlt
    cases old with
    | none => rw [if_neg (by simp)]; exact h.alive i x
    | some k =>
     simp only [letFall, List.getElem?_set] at x
     by_cases hk : k = i
     ·rw [if_pos hk] at x
      split at x <;> simp at x
     ·rw [if_neg hk] at x
      rw [if_neg (by simp; exact fun e => hk e.symm)]
      exact h.alive i x
   ·rename_i hge
    have := (List.getElem?_eq_some_iff.1 x).1
    simp at this
    rw [hlen] at hge
    omega
 ·obtain ⟨f1, f2, f3⟩ := h.frz β x
  have hnv : v.ownBlock ≠ some β := fun e => by
   obtain ⟨i, _, h2⟩ := hoi β e
   exact h.fro i β h2 x
  refine ⟨Nat.lt_of_lt_of_le f1 hg.size, (hg.block β f1 (fun e => hnv e.symm)).trans f2, fun o hs => hs.elim (f3 o) fun hs => ?_⟩
  rcases hv1 β hs.1 with h5 | ⟨h5, _⟩
  ·exact absurd h5 hnv
  ·omega
 ·change (if i = al.length then some v'.ownBlock else if some i = old then none else ρ.own i) = some (some β) at x
  split at x
  ·rcases hv1 β (Option.some.inj x) with h5 | ⟨h5, _⟩
   ·obtain ⟨i, _, h6⟩ := hoi β h5; exact h.fro i β h6
   ·exact fun hf => by have := (h.frz _ hf).1; omega
  ·split at x
   ·cases x
   ·exact h.fro i β x
 ·have hlm : (l ++ m).length = l.length + m.length := List.length_append
  have hrl := RLs.mono (fun _ _ => RE.mono hkeeps) (hr.append hn)
  refine ⟨?_, fun i ei => ?_⟩
  ·rcases ho'.2 with ⟨e1, e2⟩ | ⟨g, cap, cur, e1, e2, e3, e4, e5, e6, e7⟩
   ·have : l ++ m = [] := List.eq_nil_of_length_eq_zero (by rw [hlm]; exact e2)
    exact ⟨none, 0, by rw [e1, this]; rfl, by rw [this]; exact Nat.le_refl _, .inl this⟩
   ·refine ⟨_, cap, by rw [e1, hlm], by rw [hlm]; exact e4, .inr ⟨g, 0, cs ++ news, rfl, hrl, fun j u hu => ?_⟩⟩
    have hj : j < (l.length + m.length) * t.sz := by rw [← ho'.1]; exact (List.getElem?_eq_some_iff.1 hu).1
    rw [Nat.zero_add]
    rw [e1] at ho'
    exact ⟨.inr ⟨by rw [e1]; rfl, hj⟩, by rw [ho'.cellAt j hj]; exact hu⟩
  ·obtain rfl := Option.some.inj ei
   rw [hlen]
   refine ⟨Nat.lt_succ_self _, fun ow x => ?_⟩
   change (if al.length = al.length then some v'.ownBlock else _) = some ow at x
   rw [if_pos rfl] at x
   obtain rfl := Option.some.inj x
   refine ⟨rfl, e', cs ++ news, by rw [hlm]; exact ho', hrl, fun β eb o => ?_⟩
   rw [hlm]
   refine ⟨fun x => x.elim (fun x => ?_) fun x => x.2, fun x => .inr ⟨eb, x⟩⟩
   rcases hv1 β eb with h5 | ⟨h5, _⟩
   ·have := hlow β h5 o x; rw [Nat.add_mul]; omega
   ·have := h.fits β o x; omega
variable {P : Program} {R : Type} {w0 : World} {σ0 : Nat → Nat → Prop} {ρ : Env} {σ : Nat → Nat → Prop} {w : World} {r : R}
def turnTo (w : World) (b : Nat) (o : Obj) : World := { w with heap := w.heap.setIfInBounds b o }
theorem turnTo_same {b : Nat} {o o' : Obj} (h : w.heap[b]? = some o') : (turnTo w b o).heap[b]? = some o := by
 show (w.heap.setIfInBounds b o)[b]? = _
 rw [Array.getElem?_setIfInBounds, if_pos rfl, if_pos (Array.getElem?_eq_some_iff.1 h).1]
theorem turnTo_other {b i : Nat} {o : Obj} (h : i ≠ b) : (turnTo w b o).heap[i]? = w.heap[i]? := by
 show (w.heap.setIfInBounds b o)[i]? = _
 rw [Array.getElem?_setIfInBounds, if_neg (fun e => h e.symm)]
theorem und_map {u : Option TypeDesc} {k e : TypeId} (h : mkD u = .map k e) : u = some (.map k e) := by unfold mkD at h; split at h <;> first | (cases h; done) | (cases h; rfl)
theorem Keyed.made {k e : TypeId} {u : Ty} (h : MapTy P k e u) (w : World) : Keyed P (w.alloc (.map #[] 0)) w.heap.size k e u [] :=
 ⟨h, _, World.ownsMap_made w P k _, Go.Maps.isMap_empty, fun z => ⟨fun hz => (by cases hz), fun _ => (by simp [DataW.atKey])⟩⟩
theorem MapTy.keyed {k e : TypeId} {u : Ty} (h : MapTy P k e u) : Go.Maps.Keyed P k := by
 rcases h.key with ⟨_, hk⟩ | ⟨_, hk⟩
 ·exact Go.Maps.int_keyed hk
 ·exact Go.Maps.string_keyed hk
theorem Keyed.look {b : Nat} {k e t : TypeId} {u : Ty} {l : List (El u)} (h : Keyed P w b k e u l) (ht : P.underlying t = some (.map k e)) {x : Value} {z : El u} (hx : keyOf P k x = some (litOf u z)) :
  ∃ c, (Instr.lookup t (.map (some b)) x false).run P w = .ok (.bool c) w ∧ (c = true ↔ z ∈ l) := by
 obtain ⟨h0, D, h1, h2, h3⟩ := h
 obtain ⟨v, ps, hrun, hv⟩ := h1.lookup h0.keyed ht (h0.zero w) (plainElem_bool h0.elem false) hx
 by_cases hm : z ∈ l
 ·rw [(h3 z).1 hm] at hv
  unfold plainElem at hv
  rw [h0.elem] at hv
  cases v <;> simp at hv
  rename_i c
  exact ⟨c, hrun, by rw [hv.1]; simp [hm]⟩
 ·rw [(h3 z).2 hm] at hv
  unfold plainElem at hv
  rw [h0.elem] at hv
  cases v <;> simp at hv
  rename_i c
  exact ⟨c, hrun, by rw [hv.1]; simp [hm]⟩
theorem Keyed.put {b : Nat} {k e t : TypeId} {u : Ty} {l : List (El u)} (h : Keyed P w b k e u l) (ht : P.underlying t = some (.map k e)) {x : Value} {z : El u} (hx : keyOf P k x = some (litOf u z)) (hn : l.length < maxLen)
  (hinj : ∀ y : El u, litOf u y = litOf u z → y = z) (hkl : Go.WideAt.IsKeyLit (litOf u z)) :
  ∃ w', (Instr.mapUpdate t (.map (some b)) x (.bool true)).run P w = .ok () w' ∧ Keyed P w' b k e u (l ++ [z]) ∧ w.grownBy w' (some b) := by
 obtain ⟨h0, D, h1, h2, h3⟩ := h
 obtain ⟨w', hrun, g1, g2⟩ := h1.update h0.keyed ht hn hx (plainElem_bool h0.elem true)
 refine ⟨w', hrun, ⟨h0, _, by rw [List.length_append]; exact g1, h2.put _ _, fun y => ?_⟩, g2⟩
 by_cases hy : y = z
 ·subst hy
  refine ⟨fun _ => Go.Maps.atKey_put_same h2 hkl _ _, fun hm => absurd (by simp) hm⟩
 ·have hne : litOf u y ≠ litOf u z := fun hc => hy (hinj y hc)
  rw [Go.Maps.atKey_put_other hne]
  refine ⟨fun hm => (h3 y).1 ?_, fun hm => (h3 y).2 ?_⟩
  ·rcases List.mem_append.1 hm with hm | hm
   ·exact hm
   ·simp at hm; exact absurd hm hy
  ·exact fun hh => hm (List.mem_append.2 (.inl hh))
theorem wf_i64 {z : Int} (h : -9223372036854775808 ≤ z ∧ z ≤ 9223372036854775807) : (Lit.int .i64 z).wf = true := by
 simp only [Lit.wf, Bool.and_eq_true, decide_eq_true_eq]
 exact ⟨h.1, h.2⟩
theorem str_inj (y z : ByteArray) (h : litOf .str y = litOf .str z) : y = z := by
 simp only [litOf, Lit.string.injEq] at h
 cases y with | mk y => cases z with | mk z => rw [ByteArray.mk.injEq]; exact Array.ext' h
theorem keyIn_sound {base : Nat} {b : Nat} {k e t : TypeId} {u : Ty} {l : List (El u)} {v : AV} {x : Value} {K : AV → Option R} (h : keyIn u l v K = some r) (g : RA ρ base σ w v x) (hk : Keyed P w b k e u l) (ht : P.underlying t = some (.map k e)) :
  ∃ av c, K av = some r ∧ (Instr.lookup t (.map (some b)) x false).run P w = .ok (.bool c) w ∧ RA ρ base σ w av (.bool c) := by
 unfold keyIn at h
 split at h
 ·rename_i l z
  split at h
  ·rename_i hz
   have g : x = .int .i64 z := g
   subst g
   have hkd : P.underlying k = some (.int .i64) := by rcases hk.1.key with ⟨_, q⟩ | ⟨q, _⟩ <;> first | exact q | cases q
   obtain ⟨c, h1, h2⟩ := hk.look ht (x := .int .i64 z) (z := z) (Go.Maps.keyOf_int_mk hkd (wf_i64 hz))
   exact ⟨_, c, h, h1, by show _ = Value.bool (decide _); congr 1; rw [Bool.eq_iff_iff, h2, decide_eq_true_iff]⟩
  ·cases h
 ·rename_i l z
  split at h
  ·rename_i hz
   have g : x = .string z := g
   subst g
   have hkd : P.underlying k = some .string := by rcases hk.1.key with ⟨q, _⟩ | ⟨_, q⟩ <;> first | exact q | cases q
   obtain ⟨c, h1, h2⟩ := hk.look ht (x := .string z) (z := z) (Go.WideMaps.keyOf_string_mk hkd hz)
   exact ⟨_, c, h, h1, by show _ = Value.bool (@decide _ _); congr 1; rw [Bool.eq_iff_iff, h2, decide_eq_true_iff]⟩
  ·cases h
 ·cases h
theorem keyAdd_sound {base : Nat} {b : Nat} {k e t : TypeId} {u : Ty} {l : List (El u)} {v : AV} {x : Value} {K : List (El u) → Option R} (h : keyAdd u l v K = some r) (g : RA ρ base σ w v x) (hk : Keyed P w b k e u l) (ht : P.underlying t = some (.map k e)) :
  ∃ l' w', K l' = some r ∧ (Instr.mapUpdate t (.map (some b)) x (.bool true)).run P w = .ok () w' ∧ Keyed P w' b k e u l' ∧ w.grownBy w' (some b) := by
 unfold keyAdd at h
 have hml : maxLen = 9223372036854775807 := rfl
 split at h
 ·rename_i l z K
  split at h
  ·rename_i hz
   have g : x = .int .i64 z := g
   subst g
   have hkd : P.underlying k = some (.int .i64) := by rcases hk.1.key with ⟨_, q⟩ | ⟨q, _⟩ <;> first | exact q | cases q
   obtain ⟨w', h1, h2, h3⟩ := hk.put ht (x := .int .i64 z) (z := z) (Go.Maps.keyOf_int_mk hkd (wf_i64 ⟨hz.1, hz.2.1⟩)) (by rw [hml]; exact hz.2.2) (fun y hy => by injection hy) (by simp [Go.WideAt.IsKeyLit, litOf])
   exact ⟨_, w', h, h1, h2, h3⟩
  ·cases h
 ·rename_i l z K
  split at h
  ·rename_i hz
   have g : x = .string z := g
   subst g
   have hkd : P.underlying k = some .string := by rcases hk.1.key with ⟨q, _⟩ | ⟨_, q⟩ <;> first | exact q | cases q
   obtain ⟨w', h1, h2, h3⟩ := hk.put ht (x := .string z) (z := z) (Go.WideMaps.keyOf_string_mk hkd hz.1) (by rw [hml]; exact hz.2) (str_inj · z) (by simp [Go.WideAt.IsKeyLit, litOf])
   exact ⟨_, w', h, h1, h2, h3⟩
  ·cases h
 ·cases h
theorem mapTy {C : Ctx} (hT : TabOk P C.T) {k e : TypeId} {u : Ty} (hk : keyTy (C.ti k).d = some u) (he : (C.ti e).d.isBool = true) (hz : (C.ti e).eq = true) : MapTy P k e u := by
 have hed : (C.ti e).d = .bool := by cases hd : (C.ti e).d <;> rw [hd] at he <;> first | rfl | cases he
 obtain ⟨i, z, kn⟩ := known (P := P) hT (t := e) (by rw [hed]; exact fun x => by cases x)
 have hzf := kn.eq hz
 rw [he] at hzf
 simp only [if_true] at hzf
 have hz0 : z = .bool false := by
  unfold isFalse at hzf
  split at hzf
  ·rfl
  ·cases hzf
 refine ⟨?_, und_bool (kn.desc.trans hed), fun w => by rw [kn.zeroValue w, hz0]⟩
 have hne : (C.ti k).d ≠ .other := fun x => by rw [x] at hk; cases hk
 obtain ⟨i2, z2, kk⟩ := known (P := P) hT hne
 unfold keyTy at hk
 split at hk
 ·rename_i hd; left; exact ⟨(Option.some.inj hk).symm, und_int (kk.desc.trans hd)⟩
 ·rename_i hd; right; exact ⟨(Option.some.inj hk).symm, und_str (kk.desc.trans hd)⟩
 ·cases hk
end Go.Proofs.YtkaihbkfobiejaaGreatDoor.Xe
