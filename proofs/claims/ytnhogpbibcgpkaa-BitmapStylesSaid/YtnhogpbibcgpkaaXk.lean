/- The executor: variables and slices of the call's own. -/
import Derived.Test.YtnhogpbibcgpkaaXj
import Derived.Laws.OwnMore
import Derived.Maps.Own
import Derived.Maps.Views
namespace Go.Proofs.Ytnhogpbibcgpkaa.Xe
open Go Go.RowKit
set_option linter.unusedVariables false
set_option linter.unusedSimpArgs false
variable {P : Program} {R : Type} {w0 : World} {σ0 : Nat → Nat → Prop} {ρ : Env} {σ : Nat → Nat → Prop} {w : World} {r : R}
/-- A key, as a map has it. -/
def litOf : (u : Ty) → El u → Lit
  | .int k, z => .int k z
  | .str, z => .string (ByteArray.data z).toList
  | _, _ => .bool false
/-- What a map of the call's own, in block b, has as keys. -/
structure MapTy (P : Program) (k e : TypeId) (u : Ty) : Prop where
  key : (u = .int .i64 ∧ P.underlying k = some (.int .i64)) ∨ (u = .str ∧ P.underlying k = some .string)
  elem : P.underlying e = some .bool
  zero : ∀ w, (zeroValue e).run P w = .ok (.bool false) w
def Keyed (P : Program) (w : World) (b : Nat) (k e : TypeId) (u : Ty) (l : List (El u)) : Prop :=
  MapTy P k e u ∧ ∃ D : DataW Unit, w.ownsMap P k (Go.plainElem P e) b l.length D ∧ Go.Maps.IsMap D ∧ ∀ z : El u, ((z ∈ l → D.atKey (litOf u z) (.lit (.bool false)) = .lit (.bool true)) ∧ (z ∉ l → D.atKey (litOf u z) (.lit (.bool false)) = .lit (.bool false)))
/-- The program's type of bytes. -/
def byteTy (P : Program) : TypeId := ((List.range P.types.size).find? fun t => match P.underlying t with
  | some (.int .u8) => true
  | _ => false).getD 0
/-- What a strings.Builder holds: its bytes lie in a row of its own. -/
def Bld (P : Program) (ρ : Env) (base : Nat) (σ : Nat → Nat → Prop) (w : World) (β : Nat) (i : Option Nat) (T : TypeId) (l : List Int) : Prop :=
  ∃ p v, w.heap[β]? = some (.cells #[p, v] T (0, 0)) ∧ (p = .pointer none ∨ p = .pointer (some ⟨β, 0, none⟩)) ∧ (∀ x ∈ l, 0 ≤ x ∧ x < 256) ∧
    ∀ j, i = some j → j < ρ.no ∧ ∀ ow, ρ.own j = some ow → v.ownBlock = ow ∧ (∀ b, ow = some b → ∀ o, σ b o ↔ o < l.length) ∧ byteTy P ≠ T ∧ w.ownsRow base (byteTy P) 1 v l.length (l.map (Value.int .u8))
/-- What a variable of the call's own holds. -/
inductive BX (P : Program) (ρ : Env) (base : Nat) (σ : Nat → Nat → Prop) (w : World) (β : Nat) (cs : List AV) : Prop
  | cells (vs : Array Value) (e : TypeId) : w.heap[β]? = some (.cells vs e (0, 0)) → RAs ρ base σ w cs vs.toList → BX P ρ base σ w β cs
  | map (k e : TypeId) (u : Ty) (l : List (El u)) : cs = [.keys k e u l] → Keyed P w β k e u l → BX P ρ base σ w β cs
  | iter (s : ByteArray) (p : Nat) : cs = [.itr s p] → w.heap[β]? = some (.stringIter s p) → BX P ρ base σ w β cs
  | rows (u : Ty) (l : List (El u)) (vs : Array Value) (e : TypeId) : cs = [.row u l] → w.heap[β]? = some (.cells vs e (0, 0)) → RLs (RE σ w u) l vs.toList → BX P ρ base σ w β cs
  | build (i : Option Nat) (T : TypeId) (l : List Int) : cs = [.bld i T l] → Bld P ρ base σ w β i T l → BX P ρ base σ w β cs
  | fresh (e : TypeId) : cs = [.bld0 e] → w.heap[β]? = some (.cells #[.pointer none, .slice none 0 0] e (0, 0)) → BX P ρ base σ w β cs
theorem Keyed.same {P : Program} {w w' : World} {b : Nat} {k e : TypeId} {u : Ty} {l : List (El u)} (h : Keyed P w b k e u l) (hb : w'.heap[b]? = w.heap[b]?) : Keyed P w' b k e u l := by
  obtain ⟨h0, D, ⟨es, clock, h1, h2⟩, h3⟩ := h
  exact ⟨h0, D, ⟨es, clock, by rw [hb]; exact h1, h2⟩, h3⟩
theorem Bld.mono {P : Program} {ρ ρ' : Env} {base : Nat} {σ σ' : Nat → Nat → Prop} {w w' : World} {β : Nat} {i : Option Nat} {T : TypeId} {l : List Int} (h : Bld P ρ base σ w β i T l) (hm : Mono ρ σ w ρ' σ' w') (hb : w'.heap[β]? = w.heap[β]?) : Bld P ρ' base σ' w' β i T l := by
  obtain ⟨p, v, h1, h2, h5, h4⟩ := h
  refine ⟨p, v, by rw [hb]; exact h1, h2, h5, fun j ej => ⟨Nat.lt_of_lt_of_le (h4 j ej).1 hm.no, fun ow how => ?_⟩⟩
  obtain ⟨hi, h4⟩ := h4 j ej
  obtain ⟨g1, g2⟩ := hm.own j ow hi how
  obtain ⟨k1, k2, k5, k4⟩ := h4 ow g1
  refine ⟨k1, fun b eb o => ⟨fun x => (k2 b eb o).1 ((g2 b eb).1 o x), fun x => hm.sig _ _ ((k2 b eb o).2 x)⟩, k5, k4.1, ?_⟩
  rcases k4.2 with k4 | ⟨g, c, cur, q1, q2, q3, q4⟩
  · exact .inl k4
  · exact .inr ⟨g, c, cur, q1, q2, (g2 g (by rw [← k1, q1]; rfl)).2 _ _ _ q3, q4⟩
theorem BX.mono {P : Program} {ρ ρ' : Env} {base : Nat} {σ σ' : Nat → Nat → Prop} {w w' : World} {β : Nat} {cs : List AV} (h : BX P ρ base σ w β cs) (hm : Mono ρ σ w ρ' σ' w') (hb : w'.heap[β]? = w.heap[β]?) : BX P ρ' base σ' w' β cs := by
  cases h with
  | cells vs e h1 h2 => exact .cells vs e (by rw [hb]; exact h1) (RAs.mono hm _ h2)
  | map k e u l h1 h2 => exact .map k e u l h1 (h2.same hb)
  | iter s p h1 h2 => exact .iter s p h1 (by rw [hb]; exact h2)
  | rows u l vs e h1 h2 h3 => exact .rows u l vs e h1 (by rw [hb]; exact h2) (RLs.mono (fun _ _ => RE.mono hm.toKeeps) h3)
  | build i T l h1 h2 => exact .build i T l h1 (h2.mono hm hb)
  | fresh e h1 h2 => exact .fresh e h1 (by rw [hb]; exact h2)
theorem BX.plain {P : Program} {ρ : Env} {base : Nat} {σ : Nat → Nat → Prop} {w : World} {β : Nat} {cs : List AV} (h : BX P ρ base σ w β cs) (hp : cs.all AV.plain = true) : ∃ vs e, w.heap[β]? = some (.cells vs e (0, 0)) ∧ RAs ρ base σ w cs vs.toList := by
  cases h with
  | cells vs e h1 h2 => exact ⟨vs, e, h1, h2⟩
  | map k e u l h1 h2 => rw [h1] at hp; simp [AV.plain] at hp
  | iter s p h1 h2 => rw [h1] at hp; simp [AV.plain] at hp
  | rows u l vs e h1 h2 h3 => rw [h1] at hp; simp [AV.plain] at hp
  | build i T l h1 h2 => rw [h1] at hp; simp [AV.plain] at hp
  | fresh e h1 h2 => rw [h1] at hp; simp [AV.plain] at hp
theorem BX.keys {P : Program} {ρ : Env} {base : Nat} {σ : Nat → Nat → Prop} {w : World} {β : Nat} {k e : TypeId} {u : Ty} {l : List (El u)} (h : BX P ρ base σ w β [.keys k e u l]) : Keyed P w β k e u l := by
  cases h with
  | cells vs e _ h2 =>
    obtain ⟨v, r, _, g, _⟩ := h2
    exact g.elim
  | map k' e' u' l' h1 h2 =>
    simp only [List.cons.injEq, AV.keys.injEq, and_true] at h1
    obtain ⟨rfl, rfl, rfl, h1⟩ := h1
    rw [eq_of_heq h1]; exact h2
  | iter s p h1 _ => simp at h1
  | rows u l vs e h1 => simp at h1
  | build i T l h1 => simp at h1
  | fresh e h1 => simp at h1
theorem BX.itr {P : Program} {ρ : Env} {base : Nat} {σ : Nat → Nat → Prop} {w : World} {β : Nat} {s : ByteArray} {p : Nat} (h : BX P ρ base σ w β [.itr s p]) : w.heap[β]? = some (.stringIter s p) := by
  cases h with
  | cells vs e _ h2 =>
    obtain ⟨v, r, _, g, _⟩ := h2
    exact g.elim
  | map k' e' u' l' h1 h2 => simp at h1
  | iter s' p' h1 h2 =>
    simp only [List.cons.injEq, AV.itr.injEq, and_true] at h1
    obtain ⟨rfl, rfl⟩ := h1; exact h2
  | rows u l vs e h1 => simp at h1
  | build i T l h1 => simp at h1
  | fresh e h1 => simp at h1
theorem BX.row {P : Program} {ρ : Env} {base : Nat} {σ : Nat → Nat → Prop} {w : World} {β : Nat} {u : Ty} {l : List (El u)} (h : BX P ρ base σ w β [.row u l]) : ∃ vs e, w.heap[β]? = some (.cells vs e (0, 0)) ∧ RLs (RE σ w u) l vs.toList := by
  cases h with
  | cells vs e _ h2 =>
    obtain ⟨v, r, _, g, _⟩ := h2
    exact g.elim
  | map k' e' u' l' h1 h2 => simp at h1
  | iter s' p' h1 h2 => simp at h1
  | rows u' l' vs e h1 h2 h3 =>
    simp only [List.cons.injEq, AV.row.injEq, and_true] at h1
    obtain ⟨rfl, h1⟩ := h1
    rw [eq_of_heq h1]
    exact ⟨vs, e, h2, h3⟩
  | build i T l h1 => simp at h1
  | fresh e h1 => simp at h1
theorem BX.bld {P : Program} {ρ : Env} {base : Nat} {σ : Nat → Nat → Prop} {w : World} {β : Nat} {i : Option Nat} {T : TypeId} {l : List Int} (h : BX P ρ base σ w β [.bld i T l]) : Bld P ρ base σ w β i T l := by
  cases h with
  | cells vs e _ h2 =>
    obtain ⟨v, r, _, g, _⟩ := h2
    exact g.elim
  | map k' e' u' l' h1 h2 => simp at h1
  | iter s' p' h1 h2 => simp at h1
  | rows u' l' vs e h1 h2 h3 => simp at h1
  | build i' T' l' h1 h2 =>
    simp only [List.cons.injEq, AV.bld.injEq, and_true] at h1
    obtain ⟨rfl, rfl, rfl⟩ := h1; exact h2
  | fresh e h1 => simp at h1
theorem BX.new {P : Program} {ρ : Env} {base : Nat} {σ : Nat → Nat → Prop} {w : World} {β : Nat} {e : TypeId} (h : BX P ρ base σ w β [.bld0 e]) : w.heap[β]? = some (.cells #[.pointer none, .slice none 0 0] e (0, 0)) := by
  cases h with
  | cells vs e _ h2 =>
    obtain ⟨v, r, _, g, _⟩ := h2
    exact g.elim
  | map k' e' u' l' h1 h2 => simp at h1
  | iter s' p' h1 h2 => simp at h1
  | rows u' l' vs e h1 h2 h3 => simp at h1
  | build i' T' l' h1 h2 => simp at h1
  | fresh e' h1 h2 =>
    simp only [List.cons.injEq, AV.bld0.injEq, and_true] at h1
    obtain rfl := h1; exact h2
/-- The heap, as the executor has it: its variables ('bx'), and which of its slices may grow ('al'). -/
structure HR (P : Program) (w0 : World) (σ0 : Nat → Nat → Prop) (ρ : Env) (σ : Nat → Nat → Prop) (bx : Nat → Option (List AV)) (al : List Bool) (w : World) : Prop where
  below : Below w0.heap.size w0 w
  fits : Fits σ w
  sub : ∀ b o, σ0 b o → σ b o
  old : ∀ b o, σ b o → σ0 b o ∨ w0.heap.size ≤ b
  box : ∀ b cs, bx b = some cs → ∃ β, ρ.φ b = some β ∧ BX P ρ w0.heap.size σ w β cs
  phi : ∀ b β, ρ.φ b = some β → (bx b).isSome = true ∧ w0.heap.size ≤ β ∧ β < w.heap.size ∧ ∀ o, ¬ σ β o
  inj : ∀ b b' β, ρ.φ b = some β → ρ.φ b' = some β → b = b'
  own : ∀ i β, ρ.own i = some (some β) → w0.heap.size ≤ β ∧ β < w.heap.size ∧ ∀ b, ρ.φ b ≠ some β
  ownj : ∀ i j β, ρ.own i = some (some β) → ρ.own j = some (some β) → i = j
  lim : ∀ i ow, ρ.own i = some ow → i < al.length
  no : ρ.no = al.length
  alive : ∀ i, al[i]? = some true → ∃ ow, ρ.own i = some ow
theorem HR.size {bx al} (h : HR P w0 σ0 ρ σ bx al w) : w0.heap.size ≤ w.heap.size := h.below.size
/-- New memory alone. -/
theorem HR.mono {bx al} (h : HR P w0 σ0 ρ σ bx al w) {σ' : Nat → Nat → Prop} {w' : World} (g : Grow σ w σ' w') : Mono ρ σ w ρ σ' w' :=
  ⟨g.keeps h.fits, fun _ _ x => x, Nat.le_refl _, fun i ow _ x => ⟨x, fun β e => by
    subst e
    have hb := (h.own i β x).2.1
    exact ⟨fun o hs => (g.new β o hs).resolve_right (by omega), fun cs e f hc => by rw [g.below.block β hb]; exact hc⟩⟩⟩
theorem HR.grow {bx al} (h : HR P w0 σ0 ρ σ bx al w) {σ' : Nat → Nat → Prop} {w' : World} (g : Grow σ w σ' w') : HR P w0 σ0 ρ σ' bx al w' where
  below := h.below.trans (g.below.mono h.size)
  fits := g.lt
  sub := fun b o x => g.sig b o (h.sub b o x)
  old := fun b o x => (g.new b o x).elim (h.old b o) fun y => .inr (Nat.le_trans h.size y)
  box := fun b cs x => by
    obtain ⟨β, h1, h2⟩ := h.box b cs x
    exact ⟨β, h1, h2.mono (h.mono g) (g.below.block β (h.phi b β h1).2.2.1)⟩
  phi := fun b β x => by
    obtain ⟨h1, h2, h3, h4⟩ := h.phi b β x
    exact ⟨h1, h2, Nat.lt_of_lt_of_le h3 g.below.size, fun o hs => (g.new β o hs).elim (h4 o) fun hh => by omega⟩
  inj := h.inj
  own := fun i β x => by obtain ⟨h1, h2, h3⟩ := h.own i β x; exact ⟨h1, Nat.lt_of_lt_of_le h2 g.below.size, h3⟩
  ownj := h.ownj
  lim := h.lim
  no := h.no
  alive := h.alive
theorem HR.congr {bx bx' : Nat → Option (List AV)} {al} (h : HR P w0 σ0 ρ σ bx al w) (e : ∀ b, bx b = bx' b) : HR P w0 σ0 ρ σ bx' al w := by
  have : bx = bx' := funext e
  subst this; exact h
/-- What stands at an address. -/
theorem cellsAt_sound {bx al} {s : St} (h : HR P w0 σ0 ρ σ bx al w) (hs : ∀ b cs β, ρ.φ b = some β → s.boxes[b]? = some cs → bx b = some cs) {a : AV} {v : Value} {n : Nat} {cs : List AV} (hc : cellsAt s a n = some cs) (g : RA ρ w0.heap.size σ w a v) :
    ∃ β o us, v = .pointer (some ⟨β, o, none⟩) ∧ us.length = n ∧ RAs ρ w0.heap.size σ w cs us ∧ ∀ j u, us[j]? = some u → w.cell? ⟨β, o + j, none⟩ = some u := by
  unfold cellsAt at hc
  split at hc
  · rename_i b i
    split at hc
    · rename_i bs hb
      split at hc
      · rename_i hle
        obtain rfl := Option.some.inj hc
        obtain ⟨β', h1', e2⟩ := g
        obtain ⟨β, h1, hbx⟩ := h.box b bs (hs b bs β' h1' hb)
        obtain ⟨vs, e, h2, h3⟩ := hbx.plain hle.2
        rw [h1] at h1'
        obtain rfl := Option.some.inj h1'
        refine ⟨β, i, (vs.toList.drop i).take n, e2, ?_, (h3.drop i).take n, fun j u hu => ?_⟩
        · have := h3.length; rw [List.length_take, List.length_drop, this]; omega
        · rw [cell_of_row w β (i + j) vs e (0, 0) h2, ← Array.getElem?_toList]
          rw [List.getElem?_take] at hu
          split at hu
          · rw [List.getElem?_drop] at hu; exact hu
          · cases hu
      · cases hc
    · cases hc
  · rename_i t x i
    split at hc
    · rename_i hle
      obtain rfl := Option.some.inj hc
      obtain ⟨β, o, vs, e1, e2, e3⟩ := g
      have hra := RE.ra (ρ := ρ) (base := w0.heap.size) e2
      refine ⟨β, o + i, (vs.drop i).take n, e1, ?_, (hra.drop i).take n, fun j u hu => ?_⟩
      · have := hra.length; rw [List.length_take, List.length_drop, this]; omega
      · rw [List.getElem?_take] at hu
        split at hu
        · rw [List.getElem?_drop] at hu
          have := (e3 (i + j) u hu).2
          rw [Nat.add_assoc]; exact this
        · cases hu
    · cases hc
  · cases hc
theorem load_yields {C : Ctx} (hT : TabOk P C.T) {bx al} {s : St} {K : AV → Option R} (h : HR P w0 σ0 ρ σ bx al w) (hs : ∀ b cs β, ρ.φ b = some β → s.boxes[b]? = some cs → bx b = some cs) {t : TypeId} {a : AV} {v : Value} (hl : xload C s t a K = some r) (g : RA ρ w0.heap.size σ w a v) :
    Yields P ρ w0.heap.size σ w K r (Instr.loadAt t v) := by
  unfold xload at hl
  split at hl
  · rename_i cs hc
    obtain ⟨β, o, us, rfl, h1, h2, h3⟩ := cellsAt_sound h hs hc g
    have hne : (C.ti t).d ≠ .other := fun e => by unfold partOf at hl; rw [e] at hl; cases hl
    obtain ⟨i, z, kn⟩ := known (P := P) hT hne
    have ha := isAgg_of (P := P) kn.desc hne w
    have hsz := kn.sizeOf w
    obtain ⟨av, u, p1, p2, p3⟩ := partOf_sound (vs := us.toArray) hT hl (by simpa using h2)
    refine ⟨av, u, ?_, p2, p3⟩
    have hcells : (loadCells ⟨β, o, none⟩ (C.ti t).size).run P w = .ok us.toArray w := by
      rw [← h1]; exact run_loadCells_list (P := P) w ⟨β, o, none⟩ us (fun j u hu => by rw [addr_add]; exact h3 j u hu)
    cases hg : (C.ti t).d.isAgg with
    | true =>
      rw [hg] at ha
      simp only [part, Sem.run_bind, ha, Result.andThen_ok, if_true, hsz, Sem.run_pure] at p1
      simp only [Instr.loadAt, Instr.sureAddr, loadVar, Sem.run_bind, Sem.run_pure, Result.andThen_ok, ha, if_true, hsz, hcells]
      rw [← p1]
      congr 2
      apply Array.ext'
      simp [Array.toList_extract, List.extract_eq_take_drop, ← h1]
    | false =>
      rw [hg] at ha
      simp only [part, Sem.run_bind, ha, Result.andThen_ok, Bool.false_eq_true, if_false] at p1
      cases hu : us[0]? with
      | none => rw [show us.toArray[0]? = us[0]? by simp, hu] at p1; cases p1
      | some u' =>
        rw [show us.toArray[0]? = us[0]? by simp, hu] at p1
        have hc0 := h3 0 u' hu
        rw [Nat.add_zero] at hc0
        simp only [Instr.loadAt, Instr.sureAddr, loadVar, Sem.run_bind, Sem.run_pure, Result.andThen_ok, ha, Bool.false_eq_true, if_false, run_load, hc0]
        exact p1
  · cases hl
end Go.Proofs.Ytnhogpbibcgpkaa.Xe
