/- The executor: what its values have to do with the machine's. -/
import Derived.Test.YtnhogpbibcgpkaaXb
import Derived.Below
import Derived.Maps.AppendAt
import Derived.Laws.MakeOwn
import Derived.Laws.StructEq
import Derived.Laws.BytesString
import Derived.Laws.BytesArg
import Derived.WalkKit
namespace Go.Proofs.Ytnhogpbibcgpkaa.Xe
open Go Go.RowKit
set_option linter.unusedVariables false
/-- Parts, one behind the other. -/
def RLs {α : Type} (r : α → List Value → Prop) : List α → List Value → Prop
  | [], vs => vs = []
  | x :: l, vs => ∃ a b, vs = a ++ b ∧ r x a ∧ RLs r l b
/-- Cells that stay as they are. -/
def Cs (σ : Nat → Nat → Prop) (w : World) (β off : Nat) (cs : List Value) : Prop := ∀ j v, cs[j]? = some v → σ β (off + j) ∧ w.cell? ⟨β, off + j, none⟩ = some v
def RE (σ : Nat → Nat → Prop) (w : World) : (t : Ty) → El t → List Value → Prop
  | .int k, n, vs => vs = [.int k n]
  | .bool, b, vs => vs = [.bool b]
  | .str, s, vs => vs = [.string s]
  | .unit, _, vs => vs = []
  | .pair a b, x, vs => ∃ u v, vs = u ++ v ∧ RE σ w a x.1 u ∧ RE σ w b x.2 v
  | .sl t, l, vs => ∃ A cap, vs = [.slice A l.length cap] ∧ l.length ≤ cap ∧ (l = [] ∨ ∃ β off cs, A = some ⟨β, off, none⟩ ∧ RLs (RE σ w t) l cs ∧ Cs σ w β off cs)
structure Env where
  φ : Nat → Option Nat
  own : Nat → Option (Option Nat)
  no : Nat
/-- A slice of the call's own that may grow in place. -/
def Tip (σ : Nat → Nat → Prop) (w : World) (base : Nat) (t : Ty) (l : List (El t)) (ow : Option Nat) (v : Value) : Prop :=
  v.ownBlock = ow ∧ ∃ e cs, w.ownsRow base e t.sz v l.length cs ∧ RLs (RE σ w t) l cs ∧ ∀ β, ow = some β → ∀ o, σ β o ↔ o < l.length * t.sz
mutual
def RA (ρ : Env) (base : Nat) (σ : Nat → Nat → Prop) (w : World) : AV → Value → Prop
  | .int k n, v => v = .int k n
  | .bool p d, v => v = .bool (@decide p d)
  | .str s, v => v = .string s
  | .sl o t l, v => RE σ w (.sl t) l [v] ∧ ∀ i, o = some i → i < ρ.no ∧ ∀ ow, ρ.own i = some ow → Tip σ w base t l ow v
  | .nilsl, v => v = .slice none 0 0
  | .ptr b off, v => ∃ β, ρ.φ b = some β ∧ v = .pointer (some ⟨β, off, none⟩)
  | .nilp, v => v = .pointer none
  | .elp t x off, v => ∃ β o vs, v = .pointer (some ⟨β, o + off, none⟩) ∧ RE σ w t x vs ∧ Cs σ w β o vs
  | .fn f caps, v => ∃ vs, v = .func (.func f) #[] vs ∧ RAs ρ base σ w caps vs.toList
  | .mp b, v => ∃ β, ρ.φ b = some β ∧ v = .map (some β)
  | .keys .., _ => False
  | .itr .., _ => False
  | .row .., _ => False
  | .bld .., _ => False
  | .bld0 .., _ => False
  | .emp _, v => ∃ A, v = .slice A 0 0 ∧ (A = none ∨ ∃ β o, A = some ⟨β, o, none⟩)
  | .ms b sz off n, v => ∃ A cap, v = .slice A n cap ∧ n ≤ cap ∧ ((A = none ∧ n = 0) ∨ ∃ β o, A = some ⟨β, o, none⟩ ∧ (n = 0 ∨ (ρ.φ b = some β ∧ o = off * sz)))
  | .mse b sz off, v => ∃ β, ρ.φ b = some β ∧ v = .pointer (some ⟨β, off * sz, none⟩)
  | .agg cs, v => ∃ vs, v = .agg vs ∧ RAs ρ base σ w cs vs.toList
  | .tup cs, v => ∃ vs, v = .tuple vs ∧ RAs ρ base σ w cs vs.toList
  | .junk, _ => True
def RAs (ρ : Env) (base : Nat) (σ : Nat → Nat → Prop) (w : World) : List AV → List Value → Prop
  | [], vs => vs = []
  | a :: as, vs => ∃ v r, vs = v :: r ∧ RA ρ base σ w a v ∧ RAs ρ base σ w as r
end
section
variable {ρ ρ' : Env} {base : Nat} {σ σ' : Nat → Nat → Prop} {w w' : World}
theorem RLs.mono {α : Type} {r r' : α → List Value → Prop} (h : ∀ x vs, r x vs → r' x vs) : ∀ {l vs}, RLs r l vs → RLs r' l vs
  | [], _, g => g
  | _ :: _, _, ⟨a, b, e, g, k⟩ => ⟨a, b, e, h _ _ g, RLs.mono h k⟩
/-- What must stay: cells that are stable. -/
structure Keeps (σ σ' : Nat → Nat → Prop) (w w' : World) : Prop where
  sig : ∀ b o, σ b o → σ' b o
  cell : ∀ b o v, σ b o → w.cell? ⟨b, o, none⟩ = some v → w'.cell? ⟨b, o, none⟩ = some v
theorem Keeps.refl : Keeps σ σ w w := ⟨fun _ _ h => h, fun _ _ _ _ h => h⟩
theorem Keeps.trans {σ'' : Nat → Nat → Prop} {w'' : World} (h : Keeps σ σ' w w') (g : Keeps σ' σ'' w' w'') : Keeps σ σ'' w w'' :=
  ⟨fun b o x => g.sig b o (h.sig b o x), fun b o v x y => g.cell b o v (h.sig b o x) (h.cell b o v x y)⟩
theorem Cs.mono (h : Keeps σ σ' w w') {β off : Nat} {cs : List Value} (g : Cs σ w β off cs) : Cs σ' w' β off cs :=
  fun j v hv => ⟨h.sig _ _ (g j v hv).1, h.cell _ _ _ (g j v hv).1 (g j v hv).2⟩
theorem RE.mono (h : Keeps σ σ' w w') : ∀ {t : Ty} {x : El t} {vs}, RE σ w t x vs → RE σ' w' t x vs
  | .int _, _, _, g => g
  | .bool, _, _, g => g
  | .str, _, _, g => g
  | .unit, _, _, g => g
  | .pair _ _, _, _, ⟨u, v, e, g, k⟩ => ⟨u, v, e, RE.mono h g, RE.mono h k⟩
  | .sl _, _, _, ⟨A, c, e, g, k⟩ => ⟨A, c, e, g, k.imp id fun ⟨β, o, cs, e, r, q⟩ => ⟨β, o, cs, e, RLs.mono (fun _ _ => RE.mono h) r, q.mono h⟩⟩
theorem RE.len : ∀ {t : Ty} {x : El t} {vs}, RE σ w t x vs → vs.length = t.sz
  | .int _, _, _, g => by rw [g]; rfl
  | .bool, _, _, g => by rw [g]; rfl
  | .str, _, _, g => by rw [g]; rfl
  | .unit, _, _, g => by rw [g]; rfl
  | .pair _ _, _, _, ⟨u, v, e, g, k⟩ => by rw [e, List.length_append, RE.len g, RE.len k]; rfl
  | .sl _, _, _, ⟨A, c, e, g, k⟩ => by rw [e]; rfl
theorem RLs.len {t : Ty} : ∀ {l : List (El t)} {cs}, RLs (RE σ w t) l cs → cs.length = l.length * t.sz
  | [], _, h => by rw [h]; simp
  | _ :: _, _, ⟨a, b, e, g, k⟩ => by rw [e, List.length_append, RE.len g, RLs.len k, List.length_cons, Nat.add_mul]; omega
theorem RLs.append {α : Type} {r : α → List Value → Prop} : ∀ {l m : List α} {a b}, RLs r l a → RLs r m b → RLs r (l ++ m) (a ++ b)
  | [], _, _, _, h, g => by rw [h]; exact g
  | _ :: _, _, _, _, ⟨a, b, e, h, k⟩, g => ⟨a, b ++ _, by rw [e, List.append_assoc], h, RLs.append k g⟩
/-- The i-th part. -/
theorem RLs.get {t : Ty} : ∀ {l : List (El t)} {cs} {i : Nat} {x : El t}, RLs (RE σ w t) l cs → l[i]? = some x → ∃ a u b, cs = a ++ u ++ b ∧ a.length = i * t.sz ∧ RE σ w t x u
  | [], _, _, _, _, h => by simp at h
  | y :: l, _, 0, x, ⟨a, b, e, g, k⟩, h => by simp at h; subst h; exact ⟨[], a, b, by rw [e]; rfl, by simp, g⟩
  | y :: l, _, i + 1, x, ⟨a, b, e, g, k⟩, h => by
    obtain ⟨a', u, b', e', hl, hu⟩ := RLs.get k (by simpa using h)
    exact ⟨a ++ a', u, b', by rw [e, e']; simp, by rw [List.length_append, RE.len g, hl, Nat.add_mul]; omega, hu⟩
theorem Cs.part {β off : Nat} {a u b : List Value} (h : Cs σ w β off (a ++ u ++ b)) : Cs σ w β (off + a.length) u := fun j v hv => by
  have := h (a.length + j) v (by rw [List.append_assoc, List.getElem?_append_right (by omega), List.getElem?_append_left (by have := (List.getElem?_eq_some_iff.1 hv).1; omega)]; rw [← hv]; congr 1; omega)
  rw [Nat.add_assoc]; exact this
/-- Steps of a run: nothing stable turns, what is known of variables and of the call's own slices stays known, or is let go. -/
structure Mono (ρ : Env) (σ : Nat → Nat → Prop) (w : World) (ρ' : Env) (σ' : Nat → Nat → Prop) (w' : World) : Prop extends Keeps σ σ' w w' where
  phi : ∀ b β, ρ.φ b = some β → ρ'.φ b = some β
  no : ρ.no ≤ ρ'.no
  own : ∀ i ow, i < ρ.no → ρ'.own i = some ow → ρ.own i = some ow ∧ ∀ β, ow = some β → (∀ o, σ' β o → σ β o) ∧ (∀ cs e f, w.heap[β]? = some (.cells cs e f) → w'.heap[β]? = some (.cells cs e f))
theorem Mono.refl : Mono ρ σ w ρ σ w := ⟨.refl, fun _ _ h => h, Nat.le_refl _, fun _ _ _ h => ⟨h, fun _ _ => ⟨fun _ h => h, fun _ _ _ h => h⟩⟩⟩
theorem Mono.trans {ρ'' : Env} {σ'' : Nat → Nat → Prop} {w'' : World} (h : Mono ρ σ w ρ' σ' w') (g : Mono ρ' σ' w' ρ'' σ'' w'') : Mono ρ σ w ρ'' σ'' w'' :=
  ⟨h.toKeeps.trans g.toKeeps, fun b β x => g.phi b β (h.phi b β x), Nat.le_trans h.no g.no, fun i ow l x => by
    obtain ⟨y, hy⟩ := g.own i ow (Nat.lt_of_lt_of_le l h.no) x
    obtain ⟨z, hz⟩ := h.own i ow l y
    exact ⟨z, fun β e => ⟨fun o x => (hz β e).1 o ((hy β e).1 o x), fun cs t f x => (hy β e).2 cs t f ((hz β e).2 cs t f x)⟩⟩⟩
theorem Tip.mono {t : Ty} {l : List (El t)} {ow : Option Nat} {v : Value} (h : Keeps σ σ' w w') (g : ∀ β, ow = some β → (∀ o, σ' β o → σ β o) ∧ (∀ cs e f, w.heap[β]? = some (.cells cs e f) → w'.heap[β]? = some (.cells cs e f)))
    (k : Tip σ w base t l ow v) : Tip σ' w' base t l ow v := by
  obtain ⟨e, ty, cs, ho, hr, hs⟩ := k
  refine ⟨e, ty, cs, ⟨ho.1, ho.2.imp id ?_⟩, RLs.mono (fun _ _ => RE.mono h) hr, fun β hb o => ⟨fun x => (hs β hb o).1 ((g β hb).1 o x), fun x => h.sig _ _ ((hs β hb o).2 x)⟩⟩
  rintro ⟨b, cap, cur, hv, h1, h2, h3⟩
  exact ⟨b, cap, cur, hv, h1, (g b (by rw [← e, hv]; rfl)).2 _ _ _ h2, h3⟩
mutual
theorem RA.mono (h : Mono ρ σ w ρ' σ' w') : ∀ (a : AV) {v : Value}, RA ρ base σ w a v → RA ρ' base σ' w' a v
  | .int _ _, _, g => g
  | .bool _ _, _, g => g
  | .str _, _, g => g
  | .sl o t l, _, g => ⟨RE.mono h.toKeeps g.1, fun i e => ⟨Nat.lt_of_lt_of_le (g.2 i e).1 h.no, fun ow x => ((g.2 i e).2 ow (h.own i ow (g.2 i e).1 x).1).mono h.toKeeps (h.own i ow (g.2 i e).1 x).2⟩⟩
  | .nilsl, _, g => g
  | .ptr b off, _, ⟨β, e, g⟩ => ⟨β, h.phi _ _ e, g⟩
  | .nilp, _, g => g
  | .elp t x off, _, ⟨β, o, vs, e, g, k⟩ => ⟨β, o, vs, e, RE.mono h.toKeeps g, k.mono h.toKeeps⟩
  | .fn f caps, _, ⟨vs, e, g⟩ => ⟨vs, e, RAs.mono h caps g⟩
  | .mp b, _, ⟨β, e, g⟩ => ⟨β, h.phi _ _ e, g⟩
  | .keys .., _, g => g.elim
  | .itr .., _, g => g.elim
  | .row .., _, g => g.elim
  | .bld .., _, g => g.elim
  | .bld0 .., _, g => g.elim
  | .emp _, _, g => g
  | .ms b sz off n, _, ⟨A, cap, e, hc, g⟩ => ⟨A, cap, e, hc, g.imp id fun ⟨β, o, e2, k⟩ => ⟨β, o, e2, k.imp id fun k => ⟨h.phi _ _ k.1, k.2⟩⟩⟩
  | .mse b sz off, _, ⟨β, e, g⟩ => ⟨β, h.phi _ _ e, g⟩
  | .agg cs, _, ⟨vs, e, g⟩ => ⟨vs, e, RAs.mono h cs g⟩
  | .tup cs, _, ⟨vs, e, g⟩ => ⟨vs, e, RAs.mono h cs g⟩
  | .junk, _, g => g
theorem RAs.mono (h : Mono ρ σ w ρ' σ' w') : ∀ (as : List AV) {vs : List Value}, RAs ρ base σ w as vs → RAs ρ' base σ' w' as vs
  | [], _, g => g
  | a :: as, _, ⟨v, r, e, g, k⟩ => ⟨v, r, e, RA.mono h a g, RAs.mono h as k⟩
end
theorem RAs.length : ∀ {as : List AV} {vs : List Value}, RAs ρ base σ w as vs → vs.length = as.length
  | [], _, h => by rw [h]; rfl
  | _ :: _, _, ⟨v, r, e, _, k⟩ => by rw [e, List.length_cons, List.length_cons, RAs.length k]
theorem RAs.get : ∀ {as : List AV} {vs : List Value} {i : Nat} {a : AV}, RAs ρ base σ w as vs → as[i]? = some a → ∃ v, vs[i]? = some v ∧ RA ρ base σ w a v
  | [], _, _, _, _, h => by simp at h
  | x :: as, _, 0, a, ⟨v, r, e, g, k⟩, h => by simp at h; subst h; exact ⟨v, by rw [e]; rfl, g⟩
  | x :: as, _, i + 1, a, ⟨v, r, e, g, k⟩, h => by
    obtain ⟨u, hu, g'⟩ := RAs.get k (by simpa using h)
    exact ⟨u, by rw [e]; simpa using hu, g'⟩
theorem RAs.mk : ∀ {as : List AV} {vs : List Value}, vs.length = as.length → (∀ (i : Nat) a v, as[i]? = some a → vs[i]? = some v → RA ρ base σ w a v) → RAs ρ base σ w as vs
  | [], [], _, _ => rfl
  | a :: as, v :: vs, hl, h => ⟨v, vs, rfl, h 0 a v rfl rfl, RAs.mk (by simpa using hl) fun i a v x y => h (i + 1) a v (by simpa using x) (by simpa using y)⟩
theorem RAs.append : ∀ {a b : List AV} {u v : List Value}, RAs ρ base σ w a u → RAs ρ base σ w b v → RAs ρ base σ w (a ++ b) (u ++ v)
  | [], _, _, _, h, g => by rw [h]; exact g
  | _ :: _, _, _, _, ⟨x, r, e, h, k⟩, g => ⟨x, r ++ _, by rw [e]; rfl, h, RAs.append k g⟩
theorem RAs.take {as : List AV} {vs : List Value} (h : RAs ρ base σ w as vs) (n : Nat) : RAs ρ base σ w (as.take n) (vs.take n) :=
  RAs.mk (by simp [h.length]) fun i a v x y => by
    rw [List.getElem?_take] at x y
    by_cases hi : i < n
    · rw [if_pos hi] at x y
      obtain ⟨u, hu, g⟩ := h.get x
      rw [hu] at y; obtain rfl := Option.some.inj y; exact g
    · rw [if_neg hi] at x; cases x
theorem RAs.drop {as : List AV} {vs : List Value} (h : RAs ρ base σ w as vs) (n : Nat) : RAs ρ base σ w (as.drop n) (vs.drop n) :=
  RAs.mk (by simp [h.length]) fun i a v x y => by
    rw [List.getElem?_drop] at x y
    obtain ⟨u, hu, g⟩ := h.get x
    rw [hu] at y; obtain rfl := Option.some.inj y; exact g
theorem RAs.set {as : List AV} {vs : List Value} (h : RAs ρ base σ w as vs) (n : Nat) {a : AV} {v : Value} (g : RA ρ base σ w a v) : RAs ρ base σ w (as.set n a) (vs.set n v) :=
  RAs.mk (by simp [h.length]) fun i b u x y => by
    rw [List.getElem?_set] at x y
    by_cases hi : n = i
    · subst hi
      rw [if_pos rfl] at x y
      split at x <;> simp at x
      split at y <;> simp at y
      subst x; subst y; exact g
    · rw [if_neg hi] at x y
      obtain ⟨u', hu, g'⟩ := h.get x
      rw [hu] at y; obtain rfl := Option.some.inj y; exact g'
theorem RAs.getD {as : List AV} {vs : List Value} (h : RAs ρ base σ w as vs) (n : Nat) : RA ρ base σ w (as.getD n .junk) (vs.getD n undef) := by
  rw [List.getD_eq_getElem?_getD, List.getD_eq_getElem?_getD]
  cases hx : as[n]? with
  | none => exact trivial
  | some a => obtain ⟨v, hv, g⟩ := h.get hx; rw [hv]; exact g
/-- A cell's value lies in one cell. -/
theorem RA.one {a : AV} {v : Value} (ha : a.leaf = true) (h : RA ρ base σ w a v) : v.oneCell' = true ∧ v.cells = #[v] := by
  cases a <;> simp only [AV.leaf] at ha <;> try (exact absurd ha (by decide))
  case int k n => rw [show v = _ from h]; exact ⟨rfl, rfl⟩
  case bool p d => rw [show v = _ from h]; exact ⟨rfl, rfl⟩
  case str s => rw [show v = _ from h]; exact ⟨rfl, rfl⟩
  case sl o t l => obtain ⟨A, c, e, _⟩ := h.1; simp only [List.cons.injEq, and_true] at e; rw [e]; exact ⟨rfl, rfl⟩
  case nilsl => rw [show v = _ from h]; exact ⟨rfl, rfl⟩
  case ptr b o => obtain ⟨β, _, e⟩ := h; rw [e]; exact ⟨rfl, rfl⟩
  case nilp => rw [show v = _ from h]; exact ⟨rfl, rfl⟩
  case mp b => obtain ⟨β, _, e⟩ := h; rw [e]; exact ⟨rfl, rfl⟩
  case ms b sz off n => obtain ⟨A, cap, e, _⟩ := h; rw [e]; exact ⟨rfl, rfl⟩
  case mse b sz off => obtain ⟨β, _, e⟩ := h; rw [e]; exact ⟨rfl, rfl⟩
  case emp t => obtain ⟨A, e, _⟩ := h; rw [e]; exact ⟨rfl, rfl⟩
  case elp t x o => obtain ⟨β, _, _, e, _⟩ := h; rw [e]; exact ⟨rfl, rfl⟩
  case fn f c => obtain ⟨vs, e, _⟩ := h; rw [e]; exact ⟨rfl, rfl⟩
theorem RA.cells {a : AV} {v : Value} (ha : a.cells.all AV.leaf = true) (h : RA ρ base σ w a v) : RAs ρ base σ w a.cells v.cells.toList := by
  cases a with
  | agg cs => obtain ⟨vs, e, g⟩ := h; rw [e]; exact g
  | tup cs => simp [AV.cells, AV.leaf] at ha
  | junk => simp [AV.cells, AV.leaf] at ha
  | keys k e t l => simp [AV.cells, AV.leaf] at ha
  | itr s p => simp [AV.cells, AV.leaf] at ha
  | row t l => simp [AV.cells, AV.leaf] at ha
  | bld i T l => simp [AV.cells, AV.leaf] at ha
  | bld0 e => simp [AV.cells, AV.leaf] at ha
  | int | bool | str | sl | nilsl | ptr | nilp | elp | fn | mp | ms | mse | emp =>
    have := RA.one rfl h
    rw [this.2]
    exact ⟨v, [], rfl, h, rfl⟩
/-- Values as they are told. -/
theorem RE.ra : ∀ {t : Ty} {x : El t} {vs : List Value}, RE σ w t x vs → RAs ρ base σ w (enc t x) vs
  | .int _, _, _, g => ⟨_, [], g, rfl, rfl⟩
  | .bool, b, _, g => ⟨_, [], g, by show _ = Value.bool (decide (b = true)); rw [Bool.decide_eq_true], rfl⟩
  | .str, _, _, g => ⟨_, [], g, rfl, rfl⟩
  | .unit, _, _, g => g
  | .pair _ _, _, _, ⟨u, v, e, g, k⟩ => by rw [e]; exact RAs.append (RE.ra g) (RE.ra k)
  | .sl t, l, _, ⟨A, c, e, g, k⟩ => ⟨_, [], e, ⟨⟨A, c, rfl, g, k⟩, fun i h => by cases h⟩, rfl⟩
theorem Ty.same_eq {a b : Ty} {h : PLift (a = b)} (_ : Ty.same a b = some h) : a = b := h.down
/-- What is read of values is told by them. -/
theorem dec_sound : ∀ {t : Ty} {as : List AV} {x : El t} {r : List AV} {vs : List Value}, dec t as = some (x, r) → RAs ρ base σ w as vs → ∃ u v, vs = u ++ v ∧ RE σ w t x u ∧ RAs ρ base σ w r v
  | .int k, .int l n :: as, x, r, vs, h, g => by
    simp only [dec] at h
    split at h
    · rename_i hk; subst hk
      simp only [Option.some.injEq, Prod.mk.injEq] at h
      obtain ⟨rfl, rfl⟩ := h
      obtain ⟨v, q, e, g1, g2⟩ := g
      exact ⟨[v], q, e, by rw [show v = _ from g1]; rfl, g2⟩
    · cases h
  | .bool, .bool p d :: as, x, r, vs, h, g => by
    simp only [dec, Option.some.injEq, Prod.mk.injEq] at h
    obtain ⟨rfl, rfl⟩ := h
    obtain ⟨v, q, e, g1, g2⟩ := g
    exact ⟨[v], q, e, by rw [show v = _ from g1]; rfl, g2⟩
  | .str, .str s :: as, x, r, vs, h, g => by
    simp only [dec, Option.some.injEq, Prod.mk.injEq] at h
    obtain ⟨rfl, rfl⟩ := h
    obtain ⟨v, q, e, g1, g2⟩ := g
    exact ⟨[v], q, e, by rw [show v = _ from g1]; rfl, g2⟩
  | .unit, as, x, r, vs, h, g => by
    simp only [dec, Option.some.injEq, Prod.mk.injEq] at h
    obtain ⟨-, rfl⟩ := h
    exact ⟨[], vs, rfl, rfl, g⟩
  | .pair a b, as, x, r, vs, h, g => by
    simp only [dec] at h
    split at h
    · cases h
    · rename_i y r1 h1
      split at h
      · cases h
      · rename_i z r2 h2
        simp only [Option.some.injEq, Prod.mk.injEq] at h
        obtain ⟨rfl, rfl⟩ := h
        obtain ⟨u1, v1, rfl, k1, g1⟩ := dec_sound h1 g
        obtain ⟨u2, v2, rfl, k2, g2⟩ := dec_sound h2 g1
        exact ⟨u1 ++ u2, v2, by simp, ⟨u1, u2, rfl, k1, k2⟩, g2⟩
  | .sl t, .sl o t' l :: as, x, r, vs, h, g => by
    simp only [dec] at h
    split at h
    · rename_i hp _
      cases hp
      simp only [Option.some.injEq, Prod.mk.injEq] at h
      obtain ⟨rfl, rfl⟩ := h
      obtain ⟨v, q, e, g1, g2⟩ := g
      exact ⟨[v], q, e, g1.1, g2⟩
    · cases h
  | .sl t, .nilsl :: as, x, r, vs, h, g => by
    simp only [dec, Option.some.injEq, Prod.mk.injEq] at h
    obtain ⟨rfl, rfl⟩ := h
    obtain ⟨v, q, e, g1, g2⟩ := g
    exact ⟨[v], q, e, ⟨none, 0, by rw [show v = _ from g1]; rfl, Nat.le_refl _, .inl rfl⟩, g2⟩
  | .sl t, .emp _ :: as, x, r, vs, h, g => by
    simp only [dec, Option.some.injEq, Prod.mk.injEq] at h
    obtain ⟨rfl, rfl⟩ := h
    obtain ⟨v, q, e, ⟨A, g1, g3⟩, g2⟩ := g
    exact ⟨[v], q, e, ⟨A, 0, by rw [g1]; rfl, Nat.le_refl _, .inl rfl⟩, g2⟩
  | .int _, [], _, _, _, h, _ | .int _, .bool _ _ :: _, _, _, _, h, _ | .int _, .str _ :: _, _, _, _, h, _ | .int _, .sl _ _ _ :: _, _, _, _, h, _ | .int _, .nilsl :: _, _, _, _, h, _ | .int _, .ptr _ _ :: _, _, _, _, h, _ | .int _, .nilp :: _, _, _, _, h, _ | .int _, .elp _ _ _ :: _, _, _, _, h, _ | .int _, .fn _ _ :: _, _, _, _, h, _ | .int _, .agg _ :: _, _, _, _, h, _ | .int _, .tup _ :: _, _, _, _, h, _ | .int _, .junk :: _, _, _, _, h, _ => by simp [dec] at h
  | .bool, [], _, _, _, h, _ | .bool, .int _ _ :: _, _, _, _, h, _ | .bool, .str _ :: _, _, _, _, h, _ | .bool, .sl _ _ _ :: _, _, _, _, h, _ | .bool, .nilsl :: _, _, _, _, h, _ | .bool, .ptr _ _ :: _, _, _, _, h, _ | .bool, .nilp :: _, _, _, _, h, _ | .bool, .elp _ _ _ :: _, _, _, _, h, _ | .bool, .fn _ _ :: _, _, _, _, h, _ | .bool, .agg _ :: _, _, _, _, h, _ | .bool, .tup _ :: _, _, _, _, h, _ | .bool, .junk :: _, _, _, _, h, _ => by simp [dec] at h
  | .str, [], _, _, _, h, _ | .str, .int _ _ :: _, _, _, _, h, _ | .str, .bool _ _ :: _, _, _, _, h, _ | .str, .sl _ _ _ :: _, _, _, _, h, _ | .str, .nilsl :: _, _, _, _, h, _ | .str, .ptr _ _ :: _, _, _, _, h, _ | .str, .nilp :: _, _, _, _, h, _ | .str, .elp _ _ _ :: _, _, _, _, h, _ | .str, .fn _ _ :: _, _, _, _, h, _ | .str, .agg _ :: _, _, _, _, h, _ | .str, .tup _ :: _, _, _, _, h, _ | .str, .junk :: _, _, _, _, h, _ => by simp [dec] at h
  | .sl _, [], _, _, _, h, _ | .sl _, .int _ _ :: _, _, _, _, h, _ | .sl _, .bool _ _ :: _, _, _, _, h, _ | .sl _, .str _ :: _, _, _, _, h, _ | .sl _, .ptr _ _ :: _, _, _, _, h, _ | .sl _, .nilp :: _, _, _, _, h, _ | .sl _, .elp _ _ _ :: _, _, _, _, h, _ | .sl _, .fn _ _ :: _, _, _, _, h, _ | .sl _, .agg _ :: _, _, _, _, h, _ | .sl _, .tup _ :: _, _, _, _, h, _ | .sl _, .junk :: _, _, _, _, h, _ => by simp [dec] at h
end
end Go.Proofs.Ytnhogpbibcgpkaa.Xe
