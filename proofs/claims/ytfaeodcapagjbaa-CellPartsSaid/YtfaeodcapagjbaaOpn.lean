/- What a row hands over, read as values of the print's own kinds: numbers, strings, slices, structs and arrays, one inside the other. -/
import Derived.Test.YtfaeodcapagjbaaVInvWordsMore
import Derived.OpenShut
import Derived.SizedLaws
import Derived.Deep.Slices
namespace Go.Proofs.Ytfaeodcapagjbaa.Opn
open Go.RowKit Go.Proofs.YtfaeodcapagjbaaW.PrintWords Go.Proofs.YtfaeodcapagjbaaW.PrintLast Go.ChangeShapes Go.WideShapes
set_option linter.unusedVariables false
set_option linter.unusedSimpArgs false
/-- What can be read at type t is a value of kind d for which Q holds. -/
def Opn {α : Type} (P : Program) (W : World) (t : TypeId) (d : Kd α) (Q : α → Prop) : Prop :=
  ∀ (H : Type) (enc : TypeId × Value → H) (base : Nat) (spare : Nat → Bool) (held : Bool) (fuel : Nat) (cs : List Value) (y : DataW H × List MemPlace),
    DataW.trod enc P W base spare held fuel t cs = some y → (∀ m ∈ y.1.weights P t, m ≤ reachBytes) → ∃ x, d.K W x cs ∧ Q x
variable {α β : Type} {P : Program} {W : World}
theorem opn_int {t : TypeId} {k : IntKind} (ht : P.underlying t = some (.int k)) : Opn P W t (Kd.int k) (fun x => (Lit.int k x).wf = true) := by
  intro H enc base spare held fuel cs y h _
  obtain ⟨n, rfl, -, hw⟩ := DataW.trod_int ht h
  exact ⟨n, rfl, hw⟩
theorem opn_bool {t : TypeId} (ht : P.underlying t = some .bool) : Opn P W t Kd.bool (fun _ => True) := by
  intro H enc base spare held fuel cs y h _
  obtain ⟨n, rfl, -⟩ := DataW.trod_bool ht h
  exact ⟨n, rfl, trivial⟩
theorem opn_string {t : TypeId} (ht : P.underlying t = some .string) : Opn P W t Kd.string (fun x => x.size ≤ 140737488351232) := by
  intro H enc base spare held fuel cs y h hm
  obtain ⟨s, rfl, rfl, -⟩ := DataW.trod_string ht h
  refine ⟨s, rfl, ?_⟩
  have := hm s.data.toList.length (by simp [DataW.weights])
  rw [Array.length_toList] at this
  exact this
theorem weightsAll_mem {H : Type} {e : TypeId} : ∀ {l : List (DataW H)} {d : DataW H} {m : Nat}, d ∈ l → m ∈ d.weights P e → m ∈ DataW.weightsAll P e l
  | x :: l, d, m, hd, hm => by
    rw [DataW.weightsAll, List.mem_append]
    rcases List.mem_cons.1 hd with rfl | hd
    · exact .inl hm
    · exact .inr (weightsAll_mem hd hm)
theorem mapM_get {γ δ : Type} {f : γ → Option δ} : ∀ {l : List γ} {r : List δ}, l.mapM f = some r → ∀ (i : Nat) (x : γ), l[i]? = some x → f x = r[i]?
  | [], r, h, i, x, hx => by simp at hx
  | a :: l, r, h, i, x, hx => by
    rw [List.mapM_cons] at h
    obtain ⟨b, hb, h⟩ := Option.bind_eq_some_iff.1 h
    obtain ⟨bs, hbs, h⟩ := Option.bind_eq_some_iff.1 h
    have hr : b :: bs = r := Option.some.inj h
    subst hr
    cases i with
    | zero => simp at hx; subst hx; simpa using hb
    | succ i => simpa using mapM_get hbs i x (by simpa using hx)
theorem cells_cell {w : World} {base : Nat} {a : Addr} {n : Nat} {cs : List Value} (h : w.cells? base a n = some cs) (i : Nat) (u : Value) (hi : i < n) (hu : cs[i]? = some u) : w.cell? (a.add i) = some u := by
  unfold World.cells? at h
  split at h
  · rw [mapM_get h i i (by simp [hi]), hu]
  · cases h
theorem choose_lt' {γ : Type} {n : Nat} {p : Nat → γ → Prop} (h : ∀ i, i < n → ∃ x, p i x) : ∃ l : List γ, l.length = n ∧ ∀ i x, l[i]? = some x → p i x := by
  induction n with
  | zero => exact ⟨[], rfl, fun i x hx => by simp at hx⟩
  | succ n ih =>
    obtain ⟨l, hl, hp⟩ := ih (fun i hi => h i (by omega))
    obtain ⟨x, hx⟩ := h n (by omega)
    refine ⟨l ++ [x], by simp [hl], fun i y hy => ?_⟩
    rcases Nat.lt_or_ge i n with hi | hi
    · rw [List.getElem?_append_left (by omega)] at hy; exact hp i y hy
    · rw [List.getElem?_append_right (by omega)] at hy
      have : i = n := by
        have := (List.getElem?_eq_some_iff.1 hy).1
        simp at this; omega
      subst this
      rw [hl] at hy
      simp at hy
      subst hy
      exact hx
theorem opn_slice {t e : TypeId} {d : Kd α} {Q : α → Prop} {B : Nat} (ht : P.underlying t = some (.slice e)) (hc : P.cellsOf e = d.sz) (hB : P.bytesOf e = B) (h : Opn P W e d Q) :
    Opn P W t (Kd.slice e d) (fun l => l.length * B ≤ 140737488351232 ∧ ∀ x ∈ l, Q x) := by
  intro H enc base spare held fuel cs y hy hm
  rcases Go.Deep.open_slice ht hy with ⟨rfl, rfl⟩ | ⟨a, len, cap, m, n, D, Pl, rfl, hb, hl, hmx, hmm, rfl, hel⟩
  · exact ⟨[], ⟨none, 0, rfl, Nat.le_refl _, ⟨rfl, Nat.zero_le _, fun h => absurd h (by simp)⟩⟩, by simp, fun x hx => by cases hx⟩
  · have hw : ∀ k ∈ (DataW.slice ((List.range len).map D) ((List.range (m - len)).map fun j => D (len + j)) : DataW H).weights P t, k ≤ reachBytes := hm
    have hlm : len ≤ m := by rw [hmm]; split <;> omega
    have key : ∀ i, i < len → ∃ q : α × List Value, P.cellsOf e = q.2.length ∧ d.K W q.1 q.2 ∧ Q q.1 ∧ ∀ j u, q.2[j]? = some u → W.cell? (a.add (i * d.sz + j)) = some u := by
      intro i hi
      obtain ⟨cs', h1, h2⟩ := hel i (by omega)
      obtain ⟨x, hK, hQ⟩ := h H enc base spare held n cs' (D i, Pl i) h2 (fun k hk => hw k (by
        rw [DataW.weights, ht]
        simp only [List.mem_cons, List.mem_append]
        exact .inr (.inl (weightsAll_mem (List.mem_map.2 ⟨i, by simp [hi], rfl⟩) hk))))
      have hlen := d.K_len hK
      refine ⟨(x, cs'), by rw [hc, hlen], hK, hQ, fun j u hu => ?_⟩
      have hj : j < P.cellsOf e := by have := (List.getElem?_eq_some_iff.1 hu).1; rw [hc]; simp at this; omega
      have := cells_cell h1 j u hj hu
      rw [Go.Deep.add_add, hc] at this
      exact this
    obtain ⟨l, hll, hlp⟩ := choose_lt' key
    refine ⟨l.map (·.1), ⟨some a, cap, by rw [List.length_map, hll], by rw [List.length_map, hll]; exact hl, ⟨rfl, ?_, fun _ => ⟨a, rfl, ?_⟩⟩⟩, ?_, ?_⟩
    · rw [List.length_map, hll]
      have : maxLen = 9223372036854775807 := rfl
      omega
    · intro j p hp
      rw [List.getElem?_map] at hp
      obtain ⟨q, hq, hqp⟩ := Option.map_eq_some_iff.1 hp
      obtain ⟨g1, g2, g3, g4⟩ := hlp j q hq
      subst hqp
      exact ⟨q.2, by rw [← g1, hc], g2, g4⟩
    · rw [List.length_map, hll]
      have := hw ((((List.range len).map D).length + ((List.range (m - len)).map fun j => D (len + j)).length) * P.bytesOf e) (by rw [DataW.weights, ht]; exact List.mem_cons_self ..)
      rw [List.length_map, List.length_range, hB] at this
      have h2 : len * B ≤ (len + ((List.range (m - len)).map fun j => D (len + j)).length) * B := Nat.mul_le_mul_right _ (Nat.le_add_right _ _)
      have h3 : reachBytes = 140737488351232 := rfl
      omega
    · intro x hx
      obtain ⟨q, hq, hqx⟩ := List.mem_map.1 hx
      obtain ⟨i, hi⟩ := List.getElem?_of_mem hq
      subst hqx
      exact (hlp i q hi).2.2.1
/-- Parts in line. -/
def OpnL (P : Program) (W : World) (L : List (TypeId × Nat)) (off : Nat) (d : Kd α) (Q : α → Prop) : Prop :=
  ∀ (H : Type) (enc : TypeId × Value → H) (base : Nat) (spare : Nat → Bool) (held : Bool) (n : Nat) (cs : List Value) (xs : List (DataW H × List MemPlace)),
    cs.length = off + d.sz → xs.length = L.length → (∀ (i : Nat) (q : TypeId × Nat), L[i]? = some q → DataW.trod enc P W base spare held n q.1 ((cs.drop q.2).take (P.cellsOf q.1)) = xs[i]?) →
    (∀ m ∈ DataW.weightsEach P (L.map (·.1)) (xs.map (·.1)), m ≤ reachBytes) → ∃ x, d.K W x (cs.drop off) ∧ Q x
theorem opnL_one {t : TypeId} {off : Nat} {d : Kd α} {Q : α → Prop} (hc : P.cellsOf t = d.sz) (h : Opn P W t d Q) : OpnL P W [(t, off)] off d Q := by
  intro H enc base spare held n cs xs hl hx hi hm
  have h0 := hi 0 (t, off) rfl
  match xs, hx with
  | [y], _ =>
    rw [List.take_of_length_le (by rw [List.length_drop, hl, hc]; omega)] at h0
    exact h H enc base spare held n _ y h0 (fun m hm' => hm m (by simp only [List.map_cons, List.map_nil, DataW.weightsEach, List.append_nil]; exact hm'))
theorem opnL_cons {t : TypeId} {off : Nat} {L : List (TypeId × Nat)} {d : Kd α} {d1 : Kd β} {Q : α → Prop} {Q1 : β → Prop} (hc : P.cellsOf t = d.sz) (h : Opn P W t d Q) (h1 : OpnL P W L (off + d.sz) d1 Q1) :
    OpnL P W ((t, off) :: L) off (Kd.pair d d1) (fun x => Q x.1 ∧ Q1 x.2) := by
  intro H enc base spare held n cs xs hl hx hi hm
  have h0 := hi 0 (t, off) rfl
  match xs, hx with
  | y :: xs, hx =>
    have hl' : cs.length = off + d.sz + d1.sz := by rw [hl]; show off + (d.sz + d1.sz) = _; omega
    obtain ⟨x0, k0, q0⟩ := h H enc base spare held n _ y h0 (fun m hm' => hm m (by simp only [List.map_cons, DataW.weightsEach, List.mem_append]; exact .inl hm'))
    obtain ⟨x1, k1, q1⟩ := h1 H enc base spare held n cs xs hl' (by simpa using hx) (fun i q hq => by simpa using hi (i + 1) q (by simpa using hq)) (fun m hm' => hm m (by simp only [List.map_cons, DataW.weightsEach, List.mem_append]; exact .inr hm'))
    refine ⟨(x0, x1), ⟨_, _, ?_, k0, k1⟩, q0, q1⟩
    simp only
    rw [hc, ← List.drop_drop, List.take_append_drop]
theorem opn_struct {t : TypeId} {fs : Array Field} {L : List (TypeId × Nat)} {d : Kd α} {Q : α → Prop} (ht : P.underlying t = some (.struct fs)) (hL : fs.toList.map (fun f => (f.type, f.offset)) = L) (hc : P.cellsOf t = d.sz) (h : OpnL P W L 0 d Q) : Opn P W t d Q := by
  intro H enc base spare held fuel cs y hy hm
  obtain ⟨xs, n, rfl, rfl, hlen, hxl, hi⟩ := DataW.trod_struct ht hy
  subst hL
  have := h H enc base spare held n cs xs (by rw [hlen, hc]; omega) (by rw [hxl]; simp) (fun i q hq => by
    rw [List.getElem?_map] at hq
    obtain ⟨f, hf, hfq⟩ := Option.map_eq_some_iff.1 hq
    subst hfq
    exact hi i f (by simpa using hf)) (fun m hm' => hm m (by rw [DataW.weights, ht]; rw [List.map_map] at hm'; exact hm'))
  simpa using this
theorem weightsEach_const {H : Type} {e : TypeId} : ∀ (L : List (TypeId × Nat)) (l : List (DataW H)), (∀ q ∈ L, q.1 = e) → l.length = L.length → DataW.weightsEach P (L.map (·.1)) l = DataW.weightsAll P e l
  | [], [], _, _ => rfl
  | q :: L, d :: l, hq, hl => by
    rw [List.map_cons, DataW.weightsEach, DataW.weightsAll, hq q (List.mem_cons_self ..), weightsEach_const L l (fun q' h' => hq q' (List.mem_cons_of_mem _ h')) (by simpa using hl)]
theorem opn_array {t e : TypeId} {n : Nat} {L : List (TypeId × Nat)} {d : Kd α} {Q : α → Prop} (ht : P.underlying t = some (.array n e)) (hL : (List.range n).map (fun i => (e, i * P.cellsOf e)) = L) (hc : P.cellsOf t = d.sz) (h : OpnL P W L 0 d Q) : Opn P W t d Q := by
  intro H enc base spare held fuel cs y hy hm
  obtain ⟨xs, m, rfl, rfl, hlen, hxl, hi⟩ := DataW.trod_array ht hy
  subst hL
  have := h H enc base spare held m cs xs (by rw [hlen, hc]; omega) (by rw [hxl]; simp) (fun i q hq => by
    rw [List.getElem?_map] at hq
    obtain ⟨f, hf, hfq⟩ := Option.map_eq_some_iff.1 hq
    have hfi : f < n ∧ f = i := by
      have := List.getElem?_eq_some_iff.1 hf
      obtain ⟨h1, h2⟩ := this
      simp at h1 h2
      omega
    obtain ⟨h1, rfl⟩ := hfi
    subst hfq
    exact hi f h1) (fun m hm' => hm m (by
      rw [DataW.weights, ht]
      rw [weightsEach_const (e := e) _ _ (fun q hq => by obtain ⟨i, -, rfl⟩ := List.mem_map.1 hq; rfl) (by simp [hxl])] at hm'
      exact hm'))
  simpa using this
theorem opn_iso {t : TypeId} {d : Kd α} {Q : α → Prop} (f : β → α) (g : α → β) (hfg : ∀ y, f (g y) = y) (h : Opn P W t d Q) : Opn P W t (Kd.iso d f) (fun x => Q (f x)) := by
  intro H enc base spare held fuel cs y hy hm
  obtain ⟨x, hK, hQ⟩ := h H enc base spare held fuel cs y hy hm
  exact ⟨g x, by show d.K W (f (g x)) cs; rw [hfg]; exact hK, by show Q (f (g x)); rw [hfg]; exact hQ⟩
theorem opn_weaken {t : TypeId} {d : Kd α} {Q Q' : α → Prop} (h : Opn P W t d Q) (hq : ∀ x, Q x → Q' x) : Opn P W t d Q' := by
  intro H enc base spare held fuel cs y hy hm
  obtain ⟨x, hK, hQ⟩ := h H enc base spare held fuel cs y hy hm
  exact ⟨x, hK, hq x hQ⟩
/-- An argument of a struct's or an array's type. -/
theorem opn_arg {H : Type} {enc : TypeId × Value → H} {base : Nat} {spare : Nat → Bool} {held : Bool} {t : TypeId} {d : Kd α} {Q : α → Prop} {v : Value} {dt : DataW H} {p : List MemPlace} {ts : List TypeId} {ds : List (DataW H)} {j : Nat} (h : Opn P W t d Q)
    (hsz : (DataW.weightsEach P ts ds).all (· ≤ reachBytes) = true) (ht : ts[j]? = some t) (hd : ds[j]? = some dt) (hv : DataW.Trod enc P W base spare held t v dt p) : ∃ x, d.K W x v.cells.toList ∧ Q x := by
  obtain ⟨fuel, hf⟩ := hv
  exact h H enc base spare held fuel _ _ hf (fun m hm => by
    have := List.all_eq_true.1 hsz _ (DataW.weights_mem_each ht hd m hm)
    simpa using this)
end Go.Proofs.Ytfaeodcapagjbaa.Opn
