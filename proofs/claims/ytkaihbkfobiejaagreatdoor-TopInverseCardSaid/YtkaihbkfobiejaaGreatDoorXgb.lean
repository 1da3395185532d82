import Derived.Test.YtkaihbkfobiejaaGreatDoorXga
import Derived.Below
import Derived.Maps.AppendAt
import Derived.Laws.MakeOwn
import Derived.Laws.StructEq
import Derived.Laws.BytesString
import Derived.Laws.BytesArg
import Derived.WalkKit
import Derived.Laws.Slices
/- The executor: what its values have to do with the machine's. -/
namespace Go.Proofs.YtkaihbkfobiejaaGreatDoor.Xe
open Go Go.RowKit
set_option linter.unusedVariables false
/-- Parts, one behind the other. -/
def RLs {α : Type} (r : α → List Value → Prop) : List α → List Value → Prop
  | [], vs => vs = []
  | x :: l, vs => ∃ a b, vs = a ++ b ∧ r x a ∧ RLs r l b
/-- Cells that stay as they are. -/
def Cs (σ : Nat → Nat → Prop) (w : World) (β off : Nat) (cs : List Value) : Prop := ∀ j v, cs[j]? = some v → σ β (off + j) ∧ w.cell? ⟨β, off + j, none⟩ = some v
def RE (σ : Nat → Nat → Prop) (w : World) : (t : Ty) → El t → List Value → Prop
  | .int k, n, vs => vs = [.int k n]
  | .bool, b, vs => vs = [.bool b]
  | .str, s, vs => vs = [.string s]
  | .unit, _, vs => vs = []
  | .pair a b, x, vs => ∃ u v, vs = u ++ v ∧ RE σ w a x.1 u ∧ RE σ w b x.2 v
  | .sl t, l, vs => ∃ A cap, vs = [.slice A l.length cap] ∧ l.length ≤ cap ∧ (l = [] ∨ ∃ β off cs, A = some ⟨β, off, none⟩ ∧ RLs (RE σ w t) l cs ∧ Cs σ w β off cs)
structure Env where
  φ : Nat → Option Nat
  own : Nat → Option (Option Nat)
  no : Nat
/-- A slice of the call's own that may grow in place. -/
def Tip (σ : Nat → Nat → Prop) (w : World) (base : Nat) (t : Ty) (l : List (El t)) (ow : Option Nat) (v : Value) : Prop :=
  v.ownBlock = ow ∧ ∃ e cs, w.ownsRow base e t.sz v l.length cs ∧ RLs (RE σ w t) l cs ∧ ∀ β, ow = some β → ∀ o, σ β o ↔ o < l.length * t.sz
mutual
def RA (ρ : Env) (base : Nat) (σ : Nat → Nat → Prop) (w : World) : AV → Value → Prop
  | .int k n, v => v = .int k n
  | .bool p d, v => v = .bool (@decide p d)
  | .str s, v => v = .string s
  | .sl o t l, v => RE σ w (.sl t) l [v] ∧ ∀ i, o = some i → i < ρ.no ∧ ∀ ow, ρ.own i = some ow → Tip σ w base t l ow v
  | .nilsl, v => v = .slice none 0 0
  | .ptr b off, v => ∃ β, ρ.φ b = some β ∧ v = .pointer (some ⟨β, off, none⟩)
  | .nilp, v => v = .pointer none
  | .elp t x off, v => ∃ β o vs, v = .pointer (some ⟨β, o + off, none⟩) ∧ RE σ w t x vs ∧ Cs σ w β o vs
  | .fn f caps, v => ∃ vs, v = .func (.func f) #[] vs ∧ RAs ρ base σ w caps vs.toList
  | .mp b, v => ∃ β, ρ.φ b = some β ∧ v = .map (some β)
  | .keys .., _ => False
  | .itr .., _ => False
  | .row .., _ => False
  | .bld .., _ => False
  | .bld0 .., _ => False
  | .emp _, v => ∃ A, v = .slice A 0 0 ∧ (A = none ∨ ∃ β o, A = some ⟨β, o, none⟩)
  | .ms b sz off n, v => ∃ A cap, v = .slice A n cap ∧ n ≤ cap ∧ ((A = none ∧ n = 0) ∨ ∃ β o, A = some ⟨β, o, none⟩ ∧ (n = 0 ∨ (ρ.φ b = some β ∧ o = off * sz)))
  | .mse b sz off, v => ∃ β, ρ.φ b = some β ∧ v = .pointer (some ⟨β, off * sz, none⟩)
  | .agg cs, v => ∃ vs, v = .agg vs ∧ RAs ρ base σ w cs vs.toList
  | .tup cs, v => ∃ vs, v = .tuple vs ∧ RAs ρ base σ w cs vs.toList
  | .junk, _ => True
def RAs (ρ : Env) (base : Nat) (σ : Nat → Nat → Prop) (w : World) : List AV → List Value → Prop
  | [], vs => vs = []
  | a :: as, vs => ∃ v r, vs = v :: r ∧ RA ρ base σ w a v ∧ RAs ρ base σ w as r
end
section
variable {ρ ρ' : Env} {base : Nat} {σ σ' : Nat → Nat → Prop} {w w' : World}
theorem RLs.mono {α : Type} {r r' : α → List Value → Prop} (h : ∀ x vs, r x vs → r' x vs) : ∀ {l vs}, RLs r l vs → RLs r' l vs
  | [], _, g => g
  | _ :: _, _, ⟨a, b, e, g, k⟩ => ⟨a, b, e, h _ _ g, RLs.mono h k⟩
/-- What must stay: cells that are stable. -/
structure Keeps (σ σ' : Nat → Nat → Prop) (w w' : World) : Prop where
  sig : ∀ b o, σ b o → σ' b o
  cell : ∀ b o v, σ b o → w.cell? ⟨b, o, none⟩ = some v → w'.cell? ⟨b, o, none⟩ = some v
theorem Keeps.refl : Keeps σ σ w w := ⟨fun _ _ h => h, fun _ _ _ _ h => h⟩
theorem Keeps.trans {σ'' : Nat → Nat → Prop} {w'' : World} (h : Keeps σ σ' w w') (g : Keeps σ' σ'' w' w'') : Keeps σ σ'' w w'' :=
  ⟨fun b o x => g.sig b o (h.sig b o x), fun b o v x y => g.cell b o v (h.sig b o x) (h.cell b o v x y)⟩
theorem Cs.mono (h : Keeps σ σ' w w') {β off : Nat} {cs : List Value} (g : Cs σ w β off cs) : Cs σ' w' β off cs :=
  fun j v hv => ⟨h.sig _ _ (g j v hv).1, h.cell _ _ _ (g j v hv).1 (g j v hv).2⟩
theorem RE.mono (h : Keeps σ σ' w w') : ∀ {t : Ty} {x : El t} {vs}, RE σ w t x vs → RE σ' w' t x vs
  | .int _, _, _, g => g
  | .bool, _, _, g => g
  | .str, _, _, g => g
  | .unit, _, _, g => g
  | .pair _ _, _, _, ⟨u, v, e, g, k⟩ => ⟨u, v, e, RE.mono h g, RE.mono h k⟩
  | .sl _, _, _, ⟨A, c, e, g, k⟩ => ⟨A, c, e, g, k.imp id fun ⟨β, o, cs, e, r, q⟩ => ⟨β, o, cs, e, RLs.mono (fun _ _ => RE.mono h) r, q.mono h⟩⟩
theorem RE.len : ∀ {t : Ty} {x : El t} {vs}, RE σ w t x vs → vs.length = t.sz
  | .int _, _, _, g => by rw [g]; rfl
  | .bool, _, _, g => by rw [g]; rfl
  | .str, _, _, g => by rw [g]; rfl
  | .unit, _, _, g => by rw [g]; rfl
  | .pair _ _, _, _, ⟨u, v, e, g, k⟩ => by rw [e, List.length_append, RE.len g, RE.len k]; rfl
  | .sl _, _, _, ⟨A, c, e, g, k⟩ => by rw [e]; rfl
theorem RLs.len {t : Ty} : ∀ {l : List (El t)} {cs}, RLs (RE σ w t) l cs → cs.length = l.length * t.sz
  | [], _, h => by rw [h]; simp
  | _ :: _, _, ⟨a, b, e, g, k⟩ => by rw [e, List.length_append, RE.len g, RLs.len k, List.length_cons, Nat.add_mul]; omega
theorem RLs.append {α : Type} {r : α → List Value → Prop} : ∀ {l m : List α} {a b}, RLs r l a → RLs r m b → RLs r (l ++ m) (a ++ b)
  | [], _, _, _, h, g => by rw [h]; exact g
  | _ :: _, _, _, _, ⟨a, b, e, h, k⟩, g => ⟨a, b ++ _, by rw [e, List.append_assoc], h, RLs.append k g⟩
/-- The i-th part. -/
theorem RLs.get {t : Ty} : ∀ {l : List (El t)} {cs} {i : Nat} {x : El t}, RLs (RE σ w t) l cs → l[i]? = some x → ∃ a u b, cs = a ++ u ++ b ∧ a.length = i * t.sz ∧ RE σ w t x u
  | [], _, _, _, _, h => by simp at h
  | y :: l, _, 0, x, ⟨a, b, e, g, k⟩, h => by simp at h; subst h; exact ⟨[], a, b, by rw [e]; rfl, by simp, g⟩
  | y :: l, _, i + 1, x, ⟨a, b, e, g, k⟩, h => by
    obtain ⟨a', u, b', e', hl, hu⟩ := RLs.get k (by simpa using h)
    exact ⟨a ++ a', u, b', by rw [e, e']; simp, by rw [List.length_append, RE.len g, hl, Nat.add_mul]; omega, hu⟩
theorem Cs.part {β off : Nat} {a u b : List Value} (h : Cs σ w β off (a ++ u ++ b)) : Cs σ w β (off + a.length) u := fun j v hv => by
  have := h (a.length + j) v (by rw [List.append_assoc, List.getElem?_append_right (by omega), List.getElem?_append_left (by have := (List.getElem?_eq_some_iff.1 hv).1; omega)]; rw [← hv]; congr 1; omega)
  rw [Nat.add_assoc]; exact this
/-- Steps of a run: nothing stable turns, what is known of variables and of the call's own slices stays known, or is let go. -/
structure Mono (ρ : Env) (σ : Nat → Nat → Prop) (w : World) (ρ' : Env) (σ' : Nat → Nat → Prop) (w' : World) : Prop extends Keeps σ σ' w w' where
  phi : ∀ b β, ρ.φ b = some β → ρ'.φ b = some β
  no : ρ.no ≤ ρ'.no
  own : ∀ i ow, i < ρ.no → ρ'.own i = some ow → ρ.own i = some ow ∧ ∀ β, ow = some β → (∀ o, σ' β o → σ β o) ∧ (∀ cs e f, w.heap[β]? = some (.cells cs e f) → w'.heap[β]? = some (.cells cs e f))
theorem Mono.refl : Mono ρ σ w ρ σ w := ⟨.refl, fun _ _ h => h, Nat.le_refl _, fun _ _ _ h => ⟨h, fun _ _ => ⟨fun _ h => h, fun _ _ _ h => h⟩⟩⟩
theorem Mono.trans {ρ'' : Env} {σ'' : Nat → Nat → Prop} {w'' : World} (h : Mono ρ σ w ρ' σ' w') (g : Mono ρ' σ' w' ρ'' σ'' w'') : Mono ρ σ w ρ'' σ'' w'' :=
  ⟨h.toKeeps.trans g.toKeeps, fun b β x => g.phi b β (h.phi b β x), Nat.le_trans h.no g.no, fun i ow l x => by
    obtain ⟨y, hy⟩ := g.own i ow (Nat.lt_of_lt_of_le l h.no) x
    obtain ⟨z, hz⟩ := h.own i ow l y
    exact ⟨z, fun β e => ⟨fun o x => (hz β e).1 o ((hy β e).1 o x), fun cs t f x => (hy β e).2 cs t f ((hz β e).2 cs t f x)⟩⟩⟩
theorem Tip.mono {t : Ty} {l : List (El t)} {ow : Option Nat} {v : Value} (h : Keeps σ σ' w w') (g : ∀ β, ow = some β → (∀ o, σ' β o → σ β o) ∧ (∀ cs e f, w.heap[β]? = some (.cells cs e f) → w'.heap[β]? = some (.cells cs e f)))
    (k : Tip σ w base t l ow v) : Tip σ' w' base t l ow v := by
  obtain ⟨e, ty, cs, ho, hr, hs⟩ := k
  refine ⟨e, ty, cs, ⟨ho.1, ho.2.imp id ?_⟩, RLs.mono (fun _ _ => RE.mono h) hr, fun β hb o => ⟨fun x => (hs β hb o).1 ((g β hb).1 o x), fun x => h.sig _ _ ((hs β hb o).2 x)⟩⟩
  rintro ⟨b, cap, cur, hv, h1, h2, h3⟩
  exact ⟨b, cap, cur, hv, h1, (g b (by rw [← e, hv]; rfl)).2 _ _ _ h2, h3⟩
mutual
theorem RA.mono (h : Mono ρ σ w ρ' σ' w') : ∀ (a : AV) {v : Value}, RA ρ base σ w a v → RA ρ' base σ' w' a v
  | .int _ _, _, g => g
  | .bool _ _, _, g => g
  | .str _, _, g => g
  | .sl o t l, _, g => ⟨RE.mono h.toKeeps g.1, fun i e => ⟨Nat.lt_of_lt_of_le (g.2 i e).1 h.no, fun ow x => ((g.2 i e).2 ow (h.own i ow (g.2 i e).1 x).1).mono h.toKeeps (h.own i ow (g.2 i e).1 x).2⟩⟩
  | .nilsl, _, g => g
  | .ptr b off, _, ⟨β, e, g⟩ => ⟨β, h.phi _ _ e, g⟩
  | .nilp, _, g => g
  | .elp t x off, _, ⟨β, o, vs, e, g, k⟩ => ⟨β, o, vs, e, RE.mono h.toKeeps g, k.mono h.toKeeps⟩
  | .fn f caps, _, ⟨vs, e, g⟩ => ⟨vs, e, RAs.mono h caps g⟩
  | .mp b, _, ⟨β, e, g⟩ => ⟨β, h.phi _ _ e, g⟩
  | .keys .., _, g => g.elim
  | .itr .., _, g => g.elim
  | .row .., _, g => g.elim
  | .bld .., _, g => g.elim
  | .bld0 .., _, g => g.elim
  | .emp _, _, g => g
  | .ms b sz off n, _, ⟨A, cap, e, hc, g⟩ => ⟨A, cap, e, hc, g.imp id fun ⟨β, o, e2, k⟩ => ⟨β, o, e2, k.imp id fun k => ⟨h.phi _ _ k.1, k.2⟩⟩⟩
  | .mse b sz off, _, ⟨β, e, g⟩ => ⟨β, h.phi _ _ e, g⟩
  | .agg cs, _, ⟨vs, e, g⟩ => ⟨vs, e, RAs.mono h cs g⟩
  | .tup cs, _, ⟨vs, e, g⟩ => ⟨vs, e, RAs.mono h cs g⟩
  | .junk, _, g => g
theorem RAs.mono (h : Mono ρ σ w ρ' σ' w') : ∀ (as : List AV) {vs : List Value}, RAs ρ base σ w as vs → RAs ρ' base σ' w' as vs
  | [], _, g => g
  | a :: as, _, ⟨v, r, e, g, k⟩ => ⟨v, r, e, RA.mono h a g, RAs.mono h as k⟩
end
theorem RAs.length : ∀ {as : List AV} {vs : List Value}, RAs ρ base σ w as vs → vs.length = as.length
  | [], _, h => by rw [h]; rfl
  | _ :: _, _, ⟨v, r, e, _, k⟩ => by rw [e, List.length_cons, List.length_cons, RAs.length k]
theorem RAs.get : ∀ {as : List AV} {vs : List Value} {i : Nat} {a : AV}, RAs ρ base σ w as vs → as[i]? = some a → ∃ v, vs[i]? = some v ∧ RA ρ base σ w a v
  | [], _, _, _, _, h => by simp at h
  | x :: as, _, 0, a, ⟨v, r, e, g, k⟩, h => by simp at h; subst h; exact ⟨v, by rw [e]; rfl, g⟩
  | x :: as, _, i + 1, a, ⟨v, r, e, g, k⟩, h => by
    obtain ⟨u, hu, g'⟩ := RAs.get k (by simpa using h)
    exact ⟨u, by rw [e]; simpa using hu, g'⟩
theorem RAs.mk : ∀ {as : List AV} {vs : List Value}, vs.length = as.length → (∀ (i : Nat) a v, as[i]? = some a → vs[i]? = some v → RA ρ base σ w a v) → RAs ρ base σ w as vs
  | [], [], _, _ => rfl
  | a :: as, v :: vs, hl, h => ⟨v, vs, rfl, h 0 a v rfl rfl, RAs.mk (by simpa using hl) fun i a v x y => h (i + 1) a v (by simpa using x) (by simpa using y)⟩
theorem RAs.append : ∀ {a b : List AV} {u v : List Value}, RAs ρ base σ w a u → RAs ρ base σ w b v → RAs ρ base σ w (a ++ b) (u ++ v)
  | [], _, _, _, h, g => by rw [h]; exact g
  | _ :: _, _, _, _, ⟨x, r, e, h, k⟩, g => ⟨x, r ++ _, by rw [e]; rfl, h, RAs.append k g⟩
theorem RAs.take {as : List AV} {vs : List Value} (h : RAs ρ base σ w as vs) (n : Nat) : RAs ρ base σ w (as.take n) (vs.take n) :=
  RAs.mk (by simp [h.length]) fun i a v x y => by
    rw [List.getElem?_take] at x y
    by_cases hi : i < n
    · rw [if_pos hi] at x y
      obtain ⟨u, hu, g⟩ := h.get x
      rw [hu] at y; obtain rfl := Option.some.inj y; exact g
    · rw [if_neg hi] at x; cases x
theorem RAs.drop {as : List AV} {vs : List Value} (h : RAs ρ base σ w as vs) (n : Nat) : RAs ρ base σ w (as.drop n) (vs.drop n) :=
  RAs.mk (by simp [h.length]) fun i a v x y => by
    rw [List.getElem?_drop] at x y
    obtain ⟨u, hu, g⟩ := h.get x
    rw [hu] at y; obtain rfl := Option.some.inj y; exact g
theorem RAs.set {as : List AV} {vs : List Value} (h : RAs ρ base σ w as vs) (n : Nat) {a : AV} {v : Value} (g : RA ρ base σ w a v) : RAs ρ base σ w (as.set n a) (vs.set n v) :=
  RAs.mk (by simp [h.length]) fun i b u x y => by
    rw [List.getElem?_set] at x y
    by_cases hi : n = i
    · subst hi
      rw [if_pos rfl] at x y
      split at x <;> simp at x
      split at y <;> simp at y
      subst x; subst y; exact g
    · rw [if_neg hi] at x y
      obtain ⟨u', hu, g'⟩ := h.get x
      rw [hu] at y; obtain rfl := Option.some.inj y; exact g'
theorem RAs.getD {as : List AV} {vs : List Value} (h : RAs ρ base σ w as vs) (n : Nat) : RA ρ base σ w (as.getD n .junk) (vs.getD n undef) := by
  rw [List.getD_eq_getElem?_getD, List.getD_eq_getElem?_getD]
  cases hx : as[n]? with
  | none => exact trivial
  | some a => obtain ⟨v, hv, g⟩ := h.get hx; rw [hv]; exact g
/-- A cell's value lies in one cell. -/
theorem RA.one {a : AV} {v : Value} (ha : a.leaf = true) (h : RA ρ base σ w a v) : v.oneCell' = true ∧ v.cells = #[v] := by
  cases a <;> simp only [AV.leaf] at ha <;> try (exact absurd ha (by decide))
  case int k n => rw [show v = _ from h]; exact ⟨rfl, rfl⟩
  case bool p d => rw [show v = _ from h]; exact ⟨rfl, rfl⟩
  case str s => rw [show v = _ from h]; exact ⟨rfl, rfl⟩
  case sl o t l => obtain ⟨A, c, e, _⟩ := h.1; simp only [List.cons.injEq, and_true] at e; rw [e]; exact ⟨rfl, rfl⟩
  case nilsl => rw [show v = _ from h]; exact ⟨rfl, rfl⟩
  case ptr b o => obtain ⟨β, _, e⟩ := h; rw [e]; exact ⟨rfl, rfl⟩
  case nilp => rw [show v = _ from h]; exact ⟨rfl, rfl⟩
  case mp b => obtain ⟨β, _, e⟩ := h; rw [e]; exact ⟨rfl, rfl⟩
  case ms b sz off n => obtain ⟨A, cap, e, _⟩ := h; rw [e]; exact ⟨rfl, rfl⟩
  case mse b sz off => obtain ⟨β, _, e⟩ := h; rw [e]; exact ⟨rfl, rfl⟩
  case emp t => obtain ⟨A, e, _⟩ := h; rw [e]; exact ⟨rfl, rfl⟩
  case elp t x o => obtain ⟨β, _, _, e, _⟩ := h; rw [e]; exact ⟨rfl, rfl⟩
  case fn f c => obtain ⟨vs, e, _⟩ := h; rw [e]; exact ⟨rfl, rfl⟩
theorem RA.cells {a : AV} {v : Value} (ha : a.cells.all AV.leaf = true) (h : RA ρ base σ w a v) : RAs ρ base σ w a.cells v.cells.toList := by
  cases a with
  | agg cs => obtain ⟨vs, e, g⟩ := h; rw [e]; exact g
  | tup cs => simp [AV.cells, AV.leaf] at ha
  | junk => simp [AV.cells, AV.leaf] at ha
  | keys k e t l => simp [AV.cells, AV.leaf] at ha
  | itr s p => simp [AV.cells, AV.leaf] at ha
  | row t l => simp [AV.cells, AV.leaf] at ha
  | bld i T l => simp [AV.cells, AV.leaf] at ha
  | bld0 e => simp [AV.cells, AV.leaf] at ha
  | int | bool | str | sl | nilsl | ptr | nilp | elp | fn | mp | ms | mse | emp =>
    have := RA.one rfl h
    rw [this.2]
    exact ⟨v, [], rfl, h, rfl⟩
/-- Values as they are told. -/
theorem RE.ra : ∀ {t : Ty} {x : El t} {vs : List Value}, RE σ w t x vs → RAs ρ base σ w (enc t x) vs
  | .int _, _, _, g => ⟨_, [], g, rfl, rfl⟩
  | .bool, b, _, g => ⟨_, [], g, by show _ = Value.bool (decide (b = true)); rw [Bool.decide_eq_true], rfl⟩
  | .str, _, _, g => ⟨_, [], g, rfl, rfl⟩
  | .unit, _, _, g => g
  | .pair _ _, _, _, ⟨u, v, e, g, k⟩ => by rw [e]; exact RAs.append (RE.ra g) (RE.ra k)
  | .sl t, l, _, ⟨A, c, e, g, k⟩ => ⟨_, [], e, ⟨⟨A, c, rfl, g, k⟩, fun i h => by cases h⟩, rfl⟩
theorem Ty.same_eq {a b : Ty} {h : PLift (a = b)} (_ : Ty.same a b = some h) : a = b := h.down
/-- What is read of values is told by them. -/
theorem dec_sound : ∀ {t : Ty} {as : List AV} {x : El t} {r : List AV} {vs : List Value}, dec t as = some (x, r) → RAs ρ base σ w as vs → ∃ u v, vs = u ++ v ∧ RE σ w t x u ∧ RAs ρ base σ w r v
  | .int k, .int l n :: as, x, r, vs, h, g => by
    simp only [dec] at h
    split at h
    · rename_i hk; subst hk
      simp only [Option.some.injEq, Prod.mk.injEq] at h
      obtain ⟨rfl, rfl⟩ := h
      obtain ⟨v, q, e, g1, g2⟩ := g
      exact ⟨[v], q, e, by rw [show v = _ from g1]; rfl, g2⟩
    · cases h
  | .bool, .bool p d :: as, x, r, vs, h, g => by
    simp only [dec, Option.some.injEq, Prod.mk.injEq] at h
    obtain ⟨rfl, rfl⟩ := h
    obtain ⟨v, q, e, g1, g2⟩ := g
    exact ⟨[v], q, e, by rw [show v = _ from g1]; rfl, g2⟩
  | .str, .str s :: as, x, r, vs, h, g => by
    simp only [dec, Option.some.injEq, Prod.mk.injEq] at h
    obtain ⟨rfl, rfl⟩ := h
    obtain ⟨v, q, e, g1, g2⟩ := g
    exact ⟨[v], q, e, by rw [show v = _ from g1]; rfl, g2⟩
  | .unit, as, x, r, vs, h, g => by
    simp only [dec, Option.some.injEq, Prod.mk.injEq] at h
    obtain ⟨-, rfl⟩ := h
    exact ⟨[], vs, rfl, rfl, g⟩
  | .pair a b, as, x, r, vs, h, g => by
    simp only [dec] at h
    split at h
    · cases h
    · rename_i y r1 h1
      split at h
      · cases h
      · rename_i z r2 h2
        simp only [Option.some.injEq, Prod.mk.injEq] at h
        obtain ⟨rfl, rfl⟩ := h
        obtain ⟨u1, v1, rfl, k1, g1⟩ := dec_sound h1 g
        obtain ⟨u2, v2, rfl, k2, g2⟩ := dec_sound h2 g1
        exact ⟨u1 ++ u2, v2, by simp, ⟨u1, u2, rfl, k1, k2⟩, g2⟩
  | .sl t, .sl o t' l :: as, x, r, vs, h, g => by
    simp only [dec] at h
    split at h
    · rename_i hp _
      cases hp
      simp only [Option.some.injEq, Prod.mk.injEq] at h
      obtain ⟨rfl, rfl⟩ := h
      obtain ⟨v, q, e, g1, g2⟩ := g
      exact ⟨[v], q, e, g1.1, g2⟩
    · cases h
  | .sl t, .nilsl :: as, x, r, vs, h, g => by
    simp only [dec, Option.some.injEq, Prod.mk.injEq] at h
    obtain ⟨rfl, rfl⟩ := h
    obtain ⟨v, q, e, g1, g2⟩ := g
    exact ⟨[v], q, e, ⟨none, 0, by rw [show v = _ from g1]; rfl, Nat.le_refl _, .inl rfl⟩, g2⟩
  | .sl t, .emp _ :: as, x, r, vs, h, g => by
    simp only [dec, Option.some.injEq, Prod.mk.injEq] at h
    obtain ⟨rfl, rfl⟩ := h
    obtain ⟨v, q, e, ⟨A, g1, g3⟩, g2⟩ := g
    exact ⟨[v], q, e, ⟨A, 0, by rw [g1]; rfl, Nat.le_refl _, .inl rfl⟩, g2⟩
  | .int _, [], _, _, _, h, _ | .int _, .bool _ _ :: _, _, _, _, h, _ | .int _, .str _ :: _, _, _, _, h, _ | .int _, .sl _ _ _ :: _, _, _, _, h, _ | .int _, .nilsl :: _, _, _, _, h, _ | .int _, .ptr _ _ :: _, _, _, _, h, _ | .int _, .nilp :: _, _, _, _, h, _ | .int _, .elp _ _ _ :: _, _, _, _, h, _ | .int _, .fn _ _ :: _, _, _, _, h, _ | .int _, .agg _ :: _, _, _, _, h, _ | .int _, .tup _ :: _, _, _, _, h, _ | .int _, .junk :: _, _, _, _, h, _ => by simp [dec] at h
  | .bool, [], _, _, _, h, _ | .bool, .int _ _ :: _, _, _, _, h, _ | .bool, .str _ :: _, _, _, _, h, _ | .bool, .sl _ _ _ :: _, _, _, _, h, _ | .bool, .nilsl :: _, _, _, _, h, _ | .bool, .ptr _ _ :: _, _, _, _, h, _ | .bool, .nilp :: _, _, _, _, h, _ | .bool, .elp _ _ _ :: _, _, _, _, h, _ | .bool, .fn _ _ :: _, _, _, _, h, _ | .bool, .agg _ :: _, _, _, _, h, _ | .bool, .tup _ :: _, _, _, _, h, _ | .bool, .junk :: _, _, _, _, h, _ => by simp [dec] at h
  | .str, [], _, _, _, h, _ | .str, .int _ _ :: _, _, _, _, h, _ | .str, .bool _ _ :: _, _, _, _, h, _ | .str, .sl _ _ _ :: _, _, _, _, h, _ | .str, .nilsl :: _, _, _, _, h, _ | .str, .ptr _ _ :: _, _, _, _, h, _ | .str, .nilp :: _, _, _, _, h, _ | .str, .elp _ _ _ :: _, _, _, _, h, _ | .str, .fn _ _ :: _, _, _, _, h, _ | .str, .agg _ :: _, _, _, _, h, _ | .str, .tup _ :: _, _, _, _, h, _ | .str, .junk :: _, _, _, _, h, _ => by simp [dec] at h
  | .sl _, [], _, _, _, h, _ | .sl _, .int _ _ :: _, _, _, _, h, _ | .sl _, .bool _ _ :: _, _, _, _, h, _ | .sl _, .str _ :: _, _, _, _, h, _ | .sl _, .ptr _ _ :: _, _, _, _, h, _ | .sl _, .nilp :: _, _, _, _, h, _ | .sl _, .elp _ _ _ :: _, _, _, _, h, _ | .sl _, .fn _ _ :: _, _, _, _, h, _ | .sl _, .agg _ :: _, _, _, _, h, _ | .sl _, .tup _ :: _, _, _, _, h, _ | .sl _, .junk :: _, _, _, _, h, _ => by simp [dec] at h
end
end Go.Proofs.YtkaihbkfobiejaaGreatDoor.Xe

/- The executor: what its operations answer, the machine's do. -/
namespace Go.Proofs.YtkaihbkfobiejaaGreatDoor.Xe
open Go Go.RowKit
set_option linter.unusedVariables false
set_option linter.unusedSimpArgs false
/-! ### The table of types -/
def mkD : Option TypeDesc → D
  | some (.int k) => .int k
  | some .bool => .bool
  | some .string => .str
  | some (.slice e) => .sl e
  | some (.array n e) => .arr n e
  | some (.struct fs) => .st (fs.toList.map fun f => (f.type, f.offset))
  | some (.map k e) => .map k e
  | some (.pointer _) | some (.func ..) | some (.chan ..) | some .unsafePointer | some (.interface _) | some (.float _) | some (.complex _) => .cell
  | _ => .other
def namesOk : Option TypeDesc → Bool
  | some (.struct fs) => fs.toList.all fun f => f.name != "_"
  | _ => false
def isFalse : Value → Bool
  | .bool false => true
  | _ => false
def mkTI (P : Program) (t : TypeId) (I : TI) : TI :=
  match I.d with
  | .other => I
  | _ => match P.info? t with
    | some i => (match i.zero with
      | some z => ⟨mkD (P.underlying t), i.size, i.bytes, z.cells.toList.map ofLeaf, I.ty, I.eq && (if I.d.isBool then isFalse z else !P.stoodInHeld t && namesOk (P.underlying t))⟩
      | none => ⟨.other, 0, 0, [], none, false⟩)
    | none => ⟨.other, 0, 0, [], none, false⟩
def TabOk (P : Program) (T : List TI) : Prop := T.zipIdx.map (fun q => mkTI P q.2 q.1) = T
structure Known (P : Program) (t : TypeId) (I : TI) (i : TypeInfo) (z : Value) : Prop where
  info : P.info? t = some i
  zero : i.zero = some z
  desc : mkD (P.underlying t) = I.d
  size : i.size = I.size
  bytes : i.bytes = I.bytes
  cells : I.zero = z.cells.toList.map ofLeaf
  eq : I.eq = true → (if I.d.isBool then isFalse z else !P.stoodInHeld t && namesOk (P.underlying t)) = true
variable {P : Program} {R : Type}
theorem known {C : Ctx} (hT : TabOk P C.T) {t : TypeId} (h : (C.ti t).d ≠ .other) : ∃ i z, Known P t (C.ti t) i z := by
  unfold Ctx.ti at h ⊢
  rw [List.getD_eq_getElem?_getD] at h ⊢
  cases hI : C.T[t]? with
  | none => rw [hI] at h; exact absurd rfl h
  | some I =>
    rw [hI] at h
    have h1 : mkTI P t I = I := by
      have h2 : (C.T.zipIdx.map (fun q => mkTI P q.2 q.1))[t]? = C.T[t]? := by rw [hT]
      rw [List.getElem?_map, List.getElem?_zipIdx, hI] at h2
      simpa using h2
    simp only [Option.getD_some] at h ⊢
    unfold mkTI at h1
    split at h1
    · rename_i hd; exact absurd hd h
    · split at h1
      · rename_i i hi
        split at h1
        · rename_i z hz
          refine ⟨i, z, hi, hz, ?_, ?_, ?_, ?_, fun he => ?_⟩
          iterate 4 rw [← h1]
          rw [← h1] at he
          exact (Bool.and_eq_true_iff.1 he).2
        · exact absurd (by rw [← h1]) h
      · exact absurd (by rw [← h1]) h
theorem Known.sizeOf {t : TypeId} {I : TI} {i : TypeInfo} {z : Value} (k : Known P t I i z) (w : World) : (Go.sizeOf t).run P w = .ok I.size w := by
  simp [Go.sizeOf, typeInfo, k.info, k.size]
theorem Known.zeroValue {t : TypeId} {I : TI} {i : TypeInfo} {z : Value} (k : Known P t I i z) (w : World) : (Go.zeroValue t).run P w = .ok z w := by
  simp [Go.zeroValue, typeInfo, k.info, k.zero]
theorem und_int {u : Option TypeDesc} {k : IntKind} (h : mkD u = .int k) : u = some (.int k) := by unfold mkD at h; split at h <;> first | (cases h; done) | (cases h; rfl)
theorem und_bool {u : Option TypeDesc} (h : mkD u = .bool) : u = some .bool := by unfold mkD at h; split at h <;> first | (cases h; done) | (cases h; rfl)
theorem und_str {u : Option TypeDesc} (h : mkD u = .str) : u = some .string := by unfold mkD at h; split at h <;> first | (cases h; done) | (cases h; rfl)
theorem und_sl {u : Option TypeDesc} {e : TypeId} (h : mkD u = .sl e) : u = some (.slice e) := by unfold mkD at h; split at h <;> first | (cases h; done) | (cases h; rfl)
theorem und_arr {u : Option TypeDesc} {n : Nat} {e : TypeId} (h : mkD u = .arr n e) : u = some (.array n e) := by unfold mkD at h; split at h <;> first | (cases h; done) | (cases h; rfl)
theorem und_st {u : Option TypeDesc} {fs : List (TypeId × Nat)} (h : mkD u = .st fs) : ∃ f, u = some (.struct f) ∧ f.toList.map (fun x => (x.type, x.offset)) = fs := by
  unfold mkD at h; split at h <;> first | (cases h; done) | (cases h; exact ⟨_, rfl, rfl⟩)
theorem isAgg_of {I : TI} {t : TypeId} (hd : mkD (P.underlying t) = I.d) (ho : I.d ≠ .other) (w : World) : (Go.isAgg t).run P w = .ok I.d.isAgg w := by
  rw [← hd] at ho ⊢
  cases hu : P.underlying t with
  | none => rw [hu] at ho; exact absurd rfl ho
  | some u => cases u <;> simp [hu, mkD, D.isAgg] at ho ⊢ <;> simp [Go.isAgg, run_underlying hu]
variable {ρ : Env} {base : Nat} {σ : Nat → Nat → Prop} {w : World}
theorem RA.ofLeaf (v : Value) : RA ρ base σ w (ofLeaf v) v := by
  unfold Xe.ofLeaf
  split
  · show _ = Value.bool (decide _); rw [Bool.decide_eq_true]
  · rfl
  · rfl
  · rfl
  · rfl
  · trivial
theorem RAs.ofLeaf : ∀ (l : List Value), RAs ρ base σ w (l.map Xe.ofLeaf) l
  | [] => rfl
  | v :: l => ⟨v, l, rfl, RA.ofLeaf v, RAs.ofLeaf l⟩
theorem RA.ofV (v : Value) : RA ρ base σ w (ofV v) v := by
  unfold Xe.ofV
  split
  · exact ⟨_, rfl, RAs.ofLeaf _⟩
  · exact ⟨_, rfl, RAs.ofLeaf _⟩
  · exact RA.ofLeaf _
/-! ### What a function that is called is held to -/
def RP (σ : Nat → Nat → Prop) (w : World) (t : Ty) (x : El t) (v : Value) : Prop := ∃ β o vs, v = .pointer (some ⟨β, o, none⟩) ∧ RE σ w t x vs ∧ Cs σ w β o vs
def RPs (σ : Nat → Nat → Prop) (w : World) : (l : List Ty) → El (tysOf l) → List Value → Prop
  | [], _, vs => vs = []
  | [t], x, vs => ∃ v, vs = [v] ∧ RP σ w t x v
  | t :: r :: l, x, vs => ∃ v q, vs = v :: q ∧ RP σ w t x.1 v ∧ RPs σ w (r :: l) x.2 q
def R1 (σ : Nat → Nat → Prop) (w : World) : (s : Shp) → El s.ty → Value → Prop
  | .v t, x, v => RE σ w t x [v]
  | .a t, x, v => ∃ cs, v = .agg cs ∧ RE σ w t x cs.toList
  | .p t, x, v => RP σ w t x v
  | .fn f l, x, v => ∃ vs, v = .func (.func f) #[] vs ∧ RPs σ w l x vs.toList
theorem decP_sound {t : Ty} {a : AV} {x : El t} {v : Value} (h : decP t a = some x) (g : RA ρ base σ w a v) : RP σ w t x v := by
  unfold decP at h
  split at h
  · split at h
    · rename_i hp _
      cases hp
      obtain rfl := Option.some.inj h
      obtain ⟨β, o, vs, e, k1, k2⟩ := g
      exact ⟨β, o, vs, e, k1, k2⟩
    · cases h
  · cases h
theorem decPs_sound : ∀ {l : List Ty} {as : List AV} {x : El (tysOf l)} {vs : List Value}, decPs l as = some x → RAs ρ base σ w as vs → RPs σ w l x vs
  | [], [], x, vs, h, g => g
  | [t], [a], x, vs, h, ⟨v, r, e, g, k⟩ => ⟨v, by rw [e, show r = [] from k], decP_sound h g⟩
  | t :: r :: l, a :: as, x, vs, h, ⟨v, q, e, g, k⟩ => by
    simp only [decPs] at h
    split at h
    · rename_i y z hy hz
      obtain rfl := Option.some.inj h
      exact ⟨v, q, e, decP_sound hy g, decPs_sound hz k⟩
    · cases h
  | [], _ :: _, _, _, h, _ => by simp [decPs] at h
  | [_], [], _, _, h, _ => by simp [decPs] at h
  | [_], _ :: _ :: _, _, _, h, _ => by simp [decPs] at h
  | _ :: _ :: _, [], _, _, h, _ => by simp [decPs] at h
theorem RP.ra {t : Ty} {x : El t} {v : Value} (h : RP σ w t x v) : RA ρ base σ w (.elp t x 0) v := h
theorem RPs.ra : ∀ {l : List Ty} {x : El (tysOf l)} {vs : List Value}, RPs σ w l x vs → RAs ρ base σ w (encPs l x) vs
  | [], _, _, h => h
  | [t], x, _, ⟨v, e, h⟩ => ⟨v, [], e, RP.ra h, rfl⟩
  | t :: r :: l, x, _, ⟨v, q, e, h, k⟩ => ⟨v, q, e, RP.ra h, RPs.ra k⟩
def RS (σ : Nat → Nat → Prop) (w : World) : (sg : List Shp) → El (sgTy sg) → List Value → Prop
  | [], _, vs => vs = []
  | [s], x, vs => ∃ v, vs = [v] ∧ R1 σ w s x v
  | s :: r :: l, x, vs => ∃ v q, vs = v :: q ∧ R1 σ w s x.1 v ∧ RS σ w (r :: l) x.2 q
def RR (σ : Nat → Nat → Prop) (w : World) : (rs : Rs) → El rs.ty → Value → Prop
  | .one s, x, v => R1 σ w s x v
  | .tup l, x, v => ∃ vs, v = .tuple vs ∧ RS σ w l x vs.toList
theorem dec1_sound {s : Shp} {a : AV} {x : El s.ty} {v : Value} (h : dec1 s a = some x) (g : RA ρ base σ w a v) : R1 σ w s x v := by
  cases s with
  | v t =>
    simp only [dec1] at h
    split at h
    · rename_i y hy
      obtain rfl := Option.some.inj h
      obtain ⟨u, q, e, k, k2⟩ := dec_sound hy (show RAs ρ base σ w [a] [v] from ⟨v, [], rfl, g, rfl⟩)
      have hq : q = [] := k2
      rw [hq, List.append_nil] at e
      subst e
      exact k
    · cases h
  | a t =>
    cases a with
    | agg cs =>
      simp only [dec1] at h
      split at h
      · rename_i y hy
        obtain rfl := Option.some.inj h
        obtain ⟨vs, rfl, g'⟩ := g
        obtain ⟨u, q, e, k, k2⟩ := dec_sound hy g'
        have hq : q = [] := k2
        rw [hq, List.append_nil] at e
        exact ⟨vs, rfl, by rw [e]; exact k⟩
      · cases h
    | _ => cases h
  | p t => exact decP_sound h g
  | fn f l =>
    cases a with
    | fn g' caps =>
      simp only [dec1] at h
      split at h
      · rename_i hf
        obtain ⟨vs, e, k⟩ := g
        exact ⟨vs, by rw [e, hf], decPs_sound h k⟩
      · cases h
    | _ => cases h
theorem decs_sound : ∀ {sg : List Shp} {as : List AV} {x : El (sgTy sg)} {vs : List Value}, decs sg as = some x → RAs ρ base σ w as vs → RS σ w sg x vs
  | [], [], x, vs, h, g => g
  | [s], [a], x, vs, h, ⟨v, r, e, g, k⟩ => ⟨v, by rw [e, show r = [] from k], dec1_sound h g⟩
  | s :: r :: l, a :: as, x, vs, h, ⟨v, q, e, g, k⟩ => by
    simp only [decs] at h
    split at h
    · rename_i y z hy hz
      obtain rfl := Option.some.inj h
      exact ⟨v, q, e, dec1_sound hy g, decs_sound hz k⟩
    · cases h
  | [], _ :: _, _, _, h, _ => by simp [decs] at h
  | [_], [], _, _, h, _ => by simp [decs] at h
  | [_], _ :: _ :: _, _, _, h, _ => by simp [decs] at h
  | _ :: _ :: _, [], _, _, h, _ => by simp [decs] at h
theorem R1.ra {s : Shp} {x : El s.ty} {v : Value} (h : R1 σ w s x v) : RA ρ base σ w (enc1 s x) v := by
  cases s with
  | v t =>
    have g := RE.ra (ρ := ρ) (base := base) h
    cases he : enc t x with
    | nil => rw [he] at g; cases g
    | cons a l =>
      rw [he] at g
      obtain ⟨u, r, e, k, k2⟩ := g
      simp only [List.cons.injEq] at e
      obtain ⟨rfl, -⟩ := e
      simp only [enc1, he, List.headD_cons]; exact k
  | a t => obtain ⟨cs, rfl, g⟩ := h; exact ⟨cs, rfl, RE.ra g⟩
  | p t => exact RP.ra h
  | fn f l => obtain ⟨vs, e, g⟩ := h; exact ⟨vs, e, RPs.ra g⟩
theorem RS.ra : ∀ {sg : List Shp} {x : El (sgTy sg)} {vs : List Value}, RS σ w sg x vs → RAs ρ base σ w (encs sg x) vs
  | [], _, _, h => h
  | [s], x, _, ⟨v, e, h⟩ => ⟨v, [], e, R1.ra h, rfl⟩
  | s :: r :: l, x, _, ⟨v, q, e, h, k⟩ => ⟨v, q, e, R1.ra h, RS.ra k⟩
theorem RR.ra {rs : Rs} {x : El rs.ty} {v : Value} (h : RR σ w rs x v) : RA ρ base σ w (encR rs x) v := by
  cases rs with
  | one s => exact R1.ra h
  | tup l => obtain ⟨vs, e, g⟩ := h; exact ⟨vs, e, RS.ra g⟩
theorem decR_sound {rs : Rs} {a : AV} {x : El rs.ty} {v : Value} (h : decR rs a = some x) (g : RA ρ base σ w a v) : RR σ w rs x v := by
  cases rs with
  | one s => exact dec1_sound h g
  | tup l =>
    cases a with
    | tup as => obtain ⟨vs, e, k⟩ := g; exact ⟨vs, e, decs_sound h k⟩
    | _ => cases h
/-- New memory, and nothing else. -/
structure Grow (σ : Nat → Nat → Prop) (w : World) (σ' : Nat → Nat → Prop) (w' : World) : Prop where
  below : Below w.heap.size w w'
  sig : ∀ b o, σ b o → σ' b o
  new : ∀ b o, σ' b o → σ b o ∨ w.heap.size ≤ b
  lt : ∀ b o, σ' b o → b < w'.heap.size
def Fits (σ : Nat → Nat → Prop) (w : World) : Prop := ∀ b o, σ b o → b < w.heap.size
theorem Grow.refl (h : Fits σ w) : Grow σ w σ w := ⟨Below.refl _ _, fun _ _ h => h, fun _ _ h => .inl h, h⟩
theorem Grow.keeps {σ' : Nat → Nat → Prop} {w' : World} (h : Fits σ w) (g : Grow σ w σ' w') : Keeps σ σ' w w' :=
  ⟨g.sig, fun b o v hs hc => by rw [g.below.cell (h b o hs)]; exact hc⟩
structure ConOk (P : Program) (c : Con) : Prop where
  there : ∃ fn, P.funcs[c.id]? = some fn ∧ fn.body.isSome = true ∧ (fn.name == "runtime.NumGoroutine") = false
  calls : ∀ a b, c.f a = some b → ∀ (σ : Nat → Nat → Prop) (w : World) (vs : List Value), Fits σ w → RS σ w c.sg a vs →
    Calls P c.id vs.toArray w fun e w' => ∃ v σ', e = .returned v ∧ Grow σ w σ' w' ∧ RR σ' w' c.rs b v
theorem run_callFunc {f : FuncId} (h : ∃ fn, P.funcs[f]? = some fn ∧ fn.body.isSome = true ∧ (fn.name == "runtime.NumGoroutine") = false) (vs : Array Value) (w : World) : (callFunc f vs).run P w = .ok (.enter f vs) w := by
  obtain ⟨fn, h1, h2, h3⟩ := h
  have h4 : fn.body ≠ none := fun e => by rw [e] at h2; cases h2
  have h5 : fn.name ≠ "runtime.NumGoroutine" := fun e => by rw [e] at h3; cases h3
  simp [callFunc, h1, h5, h4]
end Go.Proofs.YtkaihbkfobiejaaGreatDoor.Xe

/- The executor: operations that read their operands alone. -/
namespace Go.Proofs.YtkaihbkfobiejaaGreatDoor.Xe
open Go Go.RowKit
set_option linter.unusedVariables false
set_option linter.unusedSimpArgs false
variable {P : Program} {R : Type} {ρ : Env} {base : Nat} {σ : Nat → Nat → Prop} {w : World} {r : R} {K : AV → Option R}
theorem beq_bytes (x y : ByteArray) : (x.toList == y.toList) = decide (x = y) := by
  rw [ByteArray.toList_eq, ByteArray.toList_eq]
  obtain ⟨⟨x⟩⟩ := x
  obtain ⟨⟨y⟩⟩ := y
  exact Bool.eq_iff_iff.2 (by simp)
/-- A value that an operation yields, the world staying. -/
def Yields (P : Program) (ρ : Env) (base : Nat) (σ : Nat → Nat → Prop) (w : World) (K : AV → Option R) (r : R) (s : Sem Value) : Prop :=
  ∃ av v, s.run P w = .ok v w ∧ K av = some r ∧ RA ρ base σ w av v
theorem yields_pure {av : AV} {v : Value} (h : K av = some r) (g : RA ρ base σ w av v) : Yields P ρ base σ w K r (pure v) := ⟨av, v, rfl, h, g⟩
theorem yields_of {s : Sem Value} {av : AV} {v : Value} (e : s.run P w = .ok v w) (h : K av = some r) (g : RA ρ base σ w av v) : Yields P ρ base σ w K r s := ⟨av, v, e, h, g⟩
theorem bop_sound {op : BinOp} {k : IntKind} {x y : Int} {t : TypeId} (h : bop op k x y K = some r) (hs : op ≠ .shl) (hs' : op ≠ .shr) : Yields P ρ base σ w K r (binOp op t (.int k x) (.int k y)) := by
  cases op <;> simp only [bop] at h <;> try (cases h; done)
  case add => rw [binOp_add]; exact yields_pure h rfl
  case sub => rw [binOp_sub]; exact yields_pure h rfl
  case mul => rw [binOp_mul]; exact yields_pure h rfl
  case quo =>
    split at h
    · cases h
    · rename_i hy; rw [binOp_quo]; simp only [Op.intDiv, if_neg hy]; exact yields_pure h rfl
  case rem =>
    split at h
    · cases h
    · rename_i hy; rw [binOp_rem]; simp only [Op.intDiv, if_neg hy]; exact yields_pure h rfl
  case and => rw [binOp_and]; exact yields_pure h rfl
  case or => rw [binOp_or]; exact yields_pure h rfl
  case xor => rw [binOp_xor]; exact yields_pure h rfl
  case andNot => rw [binOp_andNot]; exact yields_pure h rfl
  case eql => rw [binOp_eql]; exact yields_pure h (by show Value.bool _ = Value.bool _; congr 1)
  case neq => rw [binOp_neq]; exact yields_pure h (by show Value.bool _ = Value.bool _; congr 1; by_cases e : x = y <;> simp [e])
  case lss => rw [binOp_lss]; exact yields_pure h rfl
  case leq => rw [binOp_leq]; exact yields_pure h rfl
  case gtr => rw [binOp_gtr]; exact yields_pure h rfl
  case geq => rw [binOp_geq]; exact yields_pure h rfl
theorem shop_sound {op : BinOp} {k l : IntKind} {x y : Int} {t : TypeId} (h : shop op k x y K = some r) : Yields P ρ base σ w K r (binOp op t (.int k x) (.int l y)) := by
  cases op <;> simp only [shop] at h <;> try (cases h; done)
  all_goals
    split at h
    · cases h
    · rename_i hy
      first | rw [binOp_shl] | rw [binOp_shr]
      simp only [Op.shift, if_neg hy]
      exact yields_pure h rfl
theorem sop_sound {op : BinOp} {x y : ByteArray} {t : TypeId} (h : sop op x y K = some r) : Yields P ρ base σ w K r (binOp op t (.string x) (.string y)) := by
  cases op <;> simp only [sop] at h <;> try (cases h; done)
  case add =>
    obtain ⟨z, hz, h⟩ := Option.bind_eq_some_iff.1 h
    unfold scat at hz
    split at hz
    · rename_i hle
      obtain rfl := Option.some.inj hz
      refine yields_of ?_ h rfl
      have : ¬ (((x.size + y.size : Nat) : Int) > 9223372036854775807) := by omega
      simp only [binOp, Op.stringOp, IntKind.max_i64, if_neg this]
      rfl
    · cases hz
  case eql => exact yields_of rfl h (by show Value.bool _ = Value.bool _; rw [beq_bytes])
  case neq => exact yields_of rfl h (by show Value.bool _ = Value.bool _; rw [beq_bytes]; by_cases e : x = y <;> simp [e])
theorem part_one {I : TI} {t : TypeId} {cs : Array Value} {off : Nat} {v : Value} (hd : mkD (P.underlying t) = I.d) (hs : I.d.scal = true) (hv : cs[off]? = some v) : (part t cs off).run P w = .ok v w := by
  have h1 := isAgg_of (P := P) hd (by intro e; rw [e] at hs; cases hs) w
  have h2 : I.d.isAgg = false := by
    cases h : I.d <;> rw [h] at hs <;> first | rfl | cases hs
  rw [h2] at h1
  simp [part, h1, hv]
inductive Sc : D → AV → AV → Prop
  | int (k0 k : IntKind) (x y : Int) : Sc (.int k0) (.int k x) (.int k y)
  | bool (p : Prop) (d : Decidable p) (q : Prop) (e : Decidable q) : Sc .bool (.bool p d) (.bool q e)
  | str (x y : ByteArray) : Sc .str (.str x) (.str y)
theorem sc_of {D0 : D} {ds : List D} {a b : AV} {as bs : List AV} {z : Σ' p : Prop, Decidable p} (h : same (D0 :: ds) (a :: as) (b :: bs) = some z) : Sc D0 a b := by
  cases D0 with
  | int k0 =>
    cases a with
    | int k x =>
      cases b with
      | int l y =>
        simp only [same] at h
        split at h
        · rename_i hk; subst hk; exact .int ..
        · cases h
      | _ => exact absurd h (by simp [same])
    | _ => exact absurd h (by simp [same])
  | bool =>
    cases a with
    | bool p d =>
      cases b with
      | bool q e => exact .bool ..
      | _ => exact absurd h (by simp [same])
    | _ => exact absurd h (by simp [same])
  | str =>
    cases a with
    | str x =>
      cases b with
      | str y => exact .str ..
      | _ => exact absurd h (by simp [same])
    | _ => exact absurd h (by simp [same])
  | _ => exact absurd h (by simp [same])
/-- Scalars are held against each other one by one. -/
theorem scal_eq {D0 : D} {t : TypeId} (d : Nat) (hd : mkD (P.underlying t) = D0) {a b : AV} {u v : Value} {p : Prop} {dp : Decidable p} (h : same [D0] [a] [b] = some ⟨p, dp⟩) (ga : RA ρ base σ w a u) (gb : RA ρ base σ w b v) :
    (Op.equalIn (d + 1) t u v).run P w = .ok (@decide p dp) w ∧ D0.scal = true := by
  have hs := sc_of h
  cases hs
  case int k0 k x y =>
    simp only [same, if_true] at h
    cases h
    rw [show u = _ from ga, show v = _ from gb, run_equalIn_int w d t k k0 x y (und_int hd)]
    exact ⟨by congr 1; by_cases e : x = y <;> simp [e], rfl⟩
  case bool p1 d1 q1 e1 =>
    simp only [same] at h
    cases h
    rw [show u = _ from ga, show v = _ from gb, run_equalIn_bool' w d t _ _ (und_bool hd)]
    exact ⟨by congr 1; by_cases e : @decide p1 d1 = @decide q1 e1 <;> simp [e], rfl⟩
  case str x y =>
    simp only [same] at h
    cases h
    rw [show u = _ from ga, show v = _ from gb, run_equalIn_string w d t x y (und_str hd), beq_bytes]
    exact ⟨by congr 1; by_cases e : x = y <;> simp [e], rfl⟩
theorem same_cons {D0 : D} {ds : List D} {a b : AV} {as bs : List AV} {p : Prop} {dp : Decidable p} (h : same (D0 :: ds) (a :: as) (b :: bs) = some ⟨p, dp⟩) :
    ∃ p1 d1 p2 d2, same [D0] [a] [b] = some ⟨p1, d1⟩ ∧ same ds as bs = some ⟨p2, d2⟩ ∧ @decide p dp = (@decide p1 d1 && @decide p2 d2) := by
  have hs := sc_of h
  cases hs
  case int k0 k x y =>
    simp only [same, if_true] at h ⊢
    split at h
    · rename_i p2 d2 h2
      cases h
      exact ⟨_, _, p2, d2, rfl, h2, by by_cases e : x = y <;> by_cases f : p2 <;> simp [e, f]⟩
    · cases h
  case bool p1 d1 q1 e1 =>
    simp only [same] at h ⊢
    split at h
    · rename_i p2 d2 h2
      cases h
      exact ⟨_, _, p2, d2, rfl, h2, by by_cases e : @decide p1 d1 = @decide q1 e1 <;> by_cases f : p2 <;> simp [e, f]⟩
    · cases h
  case str x y =>
    simp only [same] at h ⊢
    split at h
    · rename_i p2 d2 h2
      cases h
      exact ⟨_, _, p2, d2, rfl, h2, by by_cases e : x = y <;> by_cases f : p2 <;> simp [e, f]⟩
    · cases h
theorem fields_eq {C : Ctx} (hT : TabOk P C.T) (d : Nat) (xs ys : Array Value) : ∀ (fs : List Field) (k : Nat) (as bs : List AV) (p : Prop) (dp : Decidable p),
    same (fs.map fun f => (C.ti f.type).d) as bs = some ⟨p, dp⟩ → RAs ρ base σ w as (xs.toList.drop k) → RAs ρ base σ w bs (ys.toList.drop k) → fs.map (·.offset) = List.range' k fs.length → (∀ f ∈ fs, f.name ≠ "_") →
    (Op.eqFields (d + 1) xs ys fs).run P w = .ok (@decide p dp) w
  | [], k, as, bs, p, dp, h, _, _, _, _ => by
    cases as <;> cases bs <;> simp only [List.map_nil, same] at h <;> cases h
    rfl
  | f :: fs, k, [], bs, p, dp, h, _, _, _, _ => by simp [same] at h
  | f :: fs, k, a :: as, [], p, dp, h, _, _, _, _ => by simp [same] at h
  | f :: fs, k, a :: as, b :: bs, p, dp, h, ga, gb, ho, hn => by
    obtain ⟨p1, d1, p2, d2, h1, h2, he⟩ := same_cons h
    obtain ⟨u, us, eu, gu, gus⟩ := ga
    obtain ⟨v, vs, ev, gv, gvs⟩ := gb
    simp only [List.map_cons, List.length_cons, List.range'_succ, List.cons.injEq] at ho
    obtain ⟨ho1, ho2⟩ := ho
    have h1 : same [(C.ti f.type).d] [a] [b] = some ⟨p1, d1⟩ := h1
    have hne : (C.ti f.type).d ≠ .other := fun e => by rw [e] at h1; cases a <;> cases b <;> simp [same] at h1
    obtain ⟨i, z, kn⟩ := known hT hne
    have hq := scal_eq (w := w) (ρ := ρ) (base := base) (σ := σ) d kn.desc h1 gu gv
    have hx : xs[f.offset]? = some u := by rw [ho1, ← Array.getElem?_toList]; have := congrArg (fun l => l[0]?) eu; simpa using this
    have hy : ys[f.offset]? = some v := by rw [ho1, ← Array.getElem?_toList]; have := congrArg (fun l => l[0]?) ev; simpa using this
    have hx' : xs.toList.drop (k + 1) = us := by rw [← List.drop_drop, eu]; rfl
    have hy' : ys.toList.drop (k + 1) = vs := by rw [← List.drop_drop, ev]; rfl
    have ih := fields_eq hT d xs ys fs (k + 1) as bs p2 d2 h2 (by rw [hx']; exact gus) (by rw [hy']; exact gvs) ho2 (fun f' hf => hn f' (List.mem_cons_of_mem _ hf))
    have p1' := part_one (w := w) (P := P) kn.desc hq.2 hx
    have p2' := part_one (w := w) (P := P) kn.desc hq.2 hy
    simp only [Op.eqFields, if_pos (hn f (List.mem_cons_self ..)), Sem.run_bind, p1', p2', hq.1, Result.andThen_ok, Sem.run_ite, ih]
    rw [he]
    cases @decide p1 d1 <;> simp
theorem range_eq {e : TypeId} {I : TI} {i : TypeInfo} {z : Value} (kn : Known P e I i z) (d : Nat) (xs ys : Array Value) (hsz : I.size = 1) : ∀ (n k : Nat) (as bs : List AV) (p : Prop) (dp : Decidable p),
    same (List.replicate n I.d) as bs = some ⟨p, dp⟩ → RAs ρ base σ w as (xs.toList.drop k) → RAs ρ base σ w bs (ys.toList.drop k) →
    ((forIn (List.range' k n) ((none, ()) : Option Bool × Unit) fun j _ => do
      if (!(← Op.equalIn (d + 1) e (← part e xs (j * I.size)) (← part e ys (j * I.size)))) = true then pure (.done (some false, ())) else pure (.yield (none, ())) : Sem _).run P w).andThen
      (fun a w' => (match a.fst with | some r => (pure r : Sem Bool) | none => pure true).run P w') = .ok (@decide p dp) w
  | 0, k, as, bs, p, dp, h, _, _ => by
    cases as <;> cases bs <;> simp only [List.replicate_zero, same] at h <;> cases h
    simp
  | n + 1, k, [], bs, p, dp, h, _, _ => by rw [List.replicate_succ] at h; simp [same] at h
  | n + 1, k, a :: as, [], p, dp, h, _, _ => by rw [List.replicate_succ] at h; simp [same] at h
  | n + 1, k, a :: as, b :: bs, p, dp, h, ga, gb => by
    rw [List.replicate_succ] at h
    obtain ⟨p1, d1, p2, d2, h1, h2, he⟩ := same_cons h
    obtain ⟨u, us, eu, gu, gus⟩ := ga
    obtain ⟨v, vs, ev, gv, gvs⟩ := gb
    have hq := scal_eq (w := w) (ρ := ρ) (base := base) (σ := σ) d kn.desc h1 gu gv
    have hx : xs[k]? = some u := by rw [← Array.getElem?_toList]; have := congrArg (fun l => l[0]?) eu; simpa using this
    have hy : ys[k]? = some v := by rw [← Array.getElem?_toList]; have := congrArg (fun l => l[0]?) ev; simpa using this
    have hx' : xs.toList.drop (k + 1) = us := by rw [← List.drop_drop, eu]; rfl
    have hy' : ys.toList.drop (k + 1) = vs := by rw [← List.drop_drop, ev]; rfl
    have ih := range_eq kn d xs ys hsz n (k + 1) as bs p2 d2 h2 (by rw [hx']; exact gus) (by rw [hy']; exact gvs)
    have p1' := part_one (w := w) (P := P) kn.desc hq.2 hx
    have p2' := part_one (w := w) (P := P) kn.desc hq.2 hy
    rw [List.range'_succ, List.forIn_cons]
    simp only [hsz, Nat.mul_one, Sem.run_bind, p1', p2', hq.1, Result.andThen_ok, Sem.run_ite] at ih ⊢
    rw [he]
    cases @decide p1 d1
    · simp
    · simpa using ih
end Go.Proofs.YtkaihbkfobiejaaGreatDoor.Xe

/- The executor: operations that read their operands alone: all of them. -/
namespace Go.Proofs.YtkaihbkfobiejaaGreatDoor.Xe
open Go Go.RowKit
set_option linter.unusedVariables false
set_option linter.unusedSimpArgs false
variable {P : Program} {R : Type} {ρ : Env} {base : Nat} {σ : Nat → Nat → Prop} {w : World} {r : R} {K : AV → Option R}
theorem sameK_sound {q : Option (Σ' p : Prop, Decidable p)} {op : BinOp} (h : sameK q op K = some r) : ∃ p d, q = some ⟨p, d⟩ ∧ ((op = .eql ∧ K (.bool p d) = some r) ∨ (op = .neq ∧ K (.bool (¬ p) (@instDecidableNot p d)) = some r)) := by
  unfold sameK at h
  split at h
  · exact ⟨_, _, rfl, .inl ⟨rfl, h⟩⟩
  · exact ⟨_, _, rfl, .inr ⟨rfl, h⟩⟩
  · cases h
theorem agg_sound {xt : TypeId} {xs ys : Array Value} {p : Prop} {d : Decidable p} {op : BinOp} (he : (Op.equalIn 10000 xt (.agg xs) (.agg ys)).run P w = .ok (@decide p d) w)
    (h : (op = .eql ∧ K (.bool p d) = some r) ∨ (op = .neq ∧ K (.bool (¬ p) (@instDecidableNot p d)) = some r)) : Yields P ρ base σ w K r (binOp op xt (.agg xs) (.agg ys)) := by
  rcases h with ⟨rfl, h⟩ | ⟨rfl, h⟩
  · exact yields_of (by rw [run_eql_struct, he]; rfl) h rfl
  · refine yields_of (v := .bool (!(@decide p d))) (by rw [run_neq_struct, he]; rfl) h ?_
    show Value.bool _ = Value.bool _
    by_cases e : p <;> simp [e]
theorem asInt_sound {a : AV} {v : Value} {L : Int → Option R} (h : asInt a L = some r) (g : RA ρ base σ w a v) : ∃ k n, v = .int k n ∧ L n = some r := by
  cases a <;> simp only [asInt] at h <;> try (cases h; done)
  rename_i k n
  exact ⟨k, n, g, h⟩
theorem pickAt_sound {i : Int} {L : Nat → Option R} : ∀ {n j : Nat}, pickAt i L n j = some r → ∃ m : Nat, i = (m : Int) ∧ j ≤ m ∧ m < j + n ∧ L m = some r
  | 0, _, h => by simp [pickAt] at h
  | n + 1, j, h => by
    simp only [pickAt] at h
    split at h
    · rename_i e; exact ⟨j, e, Nat.le_refl _, by omega, h⟩
    · obtain ⟨m, e, h1, h2, h3⟩ := pickAt_sound h; exact ⟨m, e, by omega, by omega, h3⟩
theorem partOf_sound {C : Ctx} (hT : TabOk P C.T) {t : TypeId} {cs : List AV} {vs : Array Value} {off : Nat} (h : partOf (C.ti t) cs off K = some r) (g : RAs ρ base σ w cs vs.toList) : Yields P ρ base σ w K r (part t vs off) := by
  have hne : (C.ti t).d ≠ .other := fun e => by unfold partOf at h; rw [e] at h; cases h
  obtain ⟨i, z, kn⟩ := known hT hne
  have ha := isAgg_of (P := P) kn.desc hne w
  have hs := kn.sizeOf w
  have gt := (g.drop off).take (C.ti t).size
  have key : ∀ (v : AV), (cs.drop off).take (C.ti t).size = [v] → (C.ti t).size = 1 → (C.ti t).d.isAgg = false → K v = some r → Yields P ρ base σ w K r (part t vs off) := by
    intro v e e1 e2 hk
    rw [e] at gt
    obtain ⟨u, q, eu, gu, -⟩ := gt
    rw [e1] at eu
    have hu : vs[off]? = some u := by
      rw [← Array.getElem?_toList]
      have := congrArg (fun l => l[0]?) eu
      simpa [List.getElem?_take] using this
    refine yields_of ?_ hk gu
    rw [e2] at ha
    simp [part, ha, hu]
  have keyA : ((cs.drop off).take (C.ti t).size).length = (C.ti t).size → (C.ti t).d.isAgg = true → K (.agg ((cs.drop off).take (C.ti t).size)) = some r → Yields P ρ base σ w K r (part t vs off) := by
    intro hl e2 hk
    refine yields_of (v := .agg (vs.extract off (off + (C.ti t).size))) ?_ hk ⟨_, rfl, ?_⟩
    · rw [e2] at ha
      simp [part, ha, hs]
    · rw [Array.toList_extract, List.extract_eq_take_drop]
      simpa using gt
  unfold partOf at h
  split at h
  · cases h
  · rename_i hd
    dsimp only at h
    split at h
    · exact keyA (by assumption) (by rw [hd]; rfl) h
    · cases h
  · rename_i hd
    dsimp only at h
    split at h
    · exact keyA (by assumption) (by rw [hd]; rfl) h
    · cases h
  · rename_i h1 h2 h3
    dsimp only at h
    split at h
    · rename_i v e
      split at h
      · rename_i hsz
        exact key v e hsz (by cases hd : (C.ti t).d <;> first | rfl | exact absurd hd (h2 _ _) | exact absurd hd (h3 _)) h
      · cases h
    · cases h
theorem fill_sound {place : Nat → Option (Nat × Nat)} : ∀ {parts : List (Nat × AV)} {vparts : List (Nat × Value)} {cs out : List AV} {vs : Array Value}, fillAt place parts cs = some out → RAs ρ base σ w cs vs.toList →
    vparts.length = parts.length → (∀ (j : Nat) i a, parts[j]? = some (i, a) → ∃ v, vparts[j]? = some (i, v) ∧ RA ρ base σ w a v) → ∃ vo, Instr.fill place vs vparts = some vo ∧ RAs ρ base σ w out vo.toList
  | [], vparts, cs, out, vs, h, g, hl, _ => by
    simp only [fillAt, Option.some.injEq] at h
    subst h
    obtain rfl : vparts = [] := List.eq_nil_of_length_eq_zero (by simpa using hl)
    exact ⟨vs, rfl, g⟩
  | (i, a) :: parts, vparts, cs, out, vs, h, g, hl, hp => by
    obtain ⟨v, hv, ga⟩ := hp 0 i a rfl
    cases vparts with
    | nil => simp at hv
    | cons q vparts =>
    obtain rfl : q = (i, v) := by simpa using hv
    simp only [fillAt] at h
    split at h
    · cases h
    · rename_i off size hpl
      split at h
      · rename_i hc
        obtain ⟨h1, h2, h3⟩ := hc
        have gc := RA.cells h3 ga
        have hcl := gc.length
        have hvl := g.length
        have hsz : v.cells.size = size := by rw [← Array.length_toList, hcl, h1]
        have hfit : off + v.cells.size ≤ vs.size := by rw [hsz, ← Array.length_toList, hvl]; exact h2
        have hfold : ∀ (l : List Value) (k : Nat) (xs : Array Value), off + k + l.length ≤ xs.size → ((l.zipIdx k).foldl (fun cs q => cs.setIfInBounds (off + q.2) q.1) xs).toList = xs.toList.take (off + k) ++ l ++ xs.toList.drop (off + k + l.length) := by
          intro l
          induction l with
          | nil => intro k xs _; simp
          | cons y l ih =>
            intro k xs hk
            simp only [List.zipIdx_cons, List.foldl_cons]
            rw [show k + 1 = k + 1 from rfl, ih (k + 1) _ (by simp at hk ⊢; omega)]
            simp only [Array.toList_setIfInBounds, List.length_cons] at hk ⊢
            have hlt : off + k < xs.toList.length := by simp; omega
            rw [show off + (k + 1) = off + k + 1 by omega, show off + k + 1 + l.length = off + k + (l.length + 1) by omega]
            rw [List.set_eq_take_append_cons_drop, if_pos hlt]
            rw [List.take_append, List.take_take, List.length_take, Nat.min_eq_left (Nat.le_of_lt hlt)]
            simp only [Nat.add_sub_cancel_left, Nat.min_eq_right (Nat.le_add_right _ 1), List.take_succ_cons, List.take_zero]
            rw [List.drop_append, List.length_take, Nat.min_eq_left (Nat.le_of_lt hlt), List.drop_eq_nil_of_le (by simp; omega)]
            rw [show off + k + (l.length + 1) - (off + k) = l.length + 1 by omega, List.drop_succ_cons, List.drop_drop]
            simp
            rw [show off + k + 1 + l.length = off + k + (l.length + 1) by omega]
        have hres := hfold v.cells.toList 0 vs (by simpa using hfit)
        have hz : (v.cells.zipIdx.foldl (fun cs (c, j) => cs.setIfInBounds (off + j) c) vs) = (v.cells.toList.zipIdx.foldl (fun cs q => cs.setIfInBounds (off + q.2) q.1) vs) := by
          rw [← Array.foldl_toList, Array.toList_zipIdx]
        obtain ⟨vo, e1, e2⟩ := fill_sound (vs := v.cells.zipIdx.foldl (fun cs (c, j) => cs.setIfInBounds (off + j) c) vs) (vparts := vparts) h (by
          rw [hz, hres]
          simp only [Nat.add_zero]
          refine RAs.append (RAs.append (g.take off) gc) ?_
          have : off + v.cells.toList.length = off + size := by rw [Array.length_toList, hsz]
          rw [this]
          exact g.drop _) (by simpa using hl) (fun j i' a' hj => by simpa using hp (j + 1) i' a' (by simpa using hj))
        refine ⟨vo, ?_, e2⟩
        have hcnd : ¬ (v.cells.size ≠ size || off + v.cells.size > vs.size) = true := by
          simp [hsz]; omega
        simp only [Instr.fill, hpl, if_neg hcnd, e1]
      · cases h
end Go.Proofs.YtkaihbkfobiejaaGreatDoor.Xe
