/- The executor: what a row hands over, as values of the executor's kinds. -/
import Derived.Test.YtkaihbkfobiejaaGreatDoorXgh
import Derived.OpenShut
import Derived.SizedLaws
import Derived.Deep.Slices
namespace Go.Proofs.YtkaihbkfobiejaaGreatDoor.Xe
open Go Go.RowKit Go.ChangeShapes Go.WideShapes
set_option linter.unusedVariables false
set_option linter.unusedSimpArgs false
/-- How many bytes a value of a kind takes at least. -/
def Ty.low : Ty → Nat
  | .int k => k.bits / 8
  | .bool => 1
  | .str => 16
  | .unit => 0
  | .pair a b => a.low + b.low
  | .sl _ => 24
/-- What is known of values that come in. -/
def Wf : (t : Ty) → El t → Prop
  | .int k, x => (Lit.int k x).wf = true
  | .bool, _ => True
  | .str, s => s.size ≤ 140737488351232
  | .unit, _ => True
  | .pair a b, x => Wf a x.1 ∧ Wf b x.2
  | .sl t, l => l.length ≤ 140737488351232 ∧ l.length * t.low ≤ 140737488351232 ∧ ∀ x ∈ l, Wf t x
/-- All that lies in memory stays. -/
def AllOf (w : World) : Nat → Nat → Prop := fun b _ => b < w.heap.size
def Opn (P : Program) (W : World) (t : TypeId) (ty : Ty) : Prop :=
  ∀ (H : Type) (enc : TypeId × Value → H) (base : Nat) (spare : Nat → Bool) (held : Bool) (fuel : Nat) (cs : List Value) (y : DataW H × List MemPlace),
    DataW.trod enc P W base spare held fuel t cs = some y → (∀ m ∈ y.1.weights P t, m ≤ reachBytes) → ∃ x : El ty, RE (AllOf W) W ty x cs ∧ Wf ty x
variable {P : Program} {W : World}
theorem opn_int {t : TypeId} {k : IntKind} (ht : P.underlying t = some (.int k)) : Opn P W t (.int k) := by
  intro H enc base spare held fuel cs y h _
  obtain ⟨n, rfl, -, hw⟩ := DataW.trod_int ht h
  exact ⟨n, rfl, hw⟩
theorem opn_bool {t : TypeId} (ht : P.underlying t = some .bool) : Opn P W t .bool := by
  intro H enc base spare held fuel cs y h _
  obtain ⟨n, rfl, -⟩ := DataW.trod_bool ht h
  exact ⟨n, rfl, trivial⟩
theorem opn_string {t : TypeId} (ht : P.underlying t = some .string) : Opn P W t .str := by
  intro H enc base spare held fuel cs y h hm
  obtain ⟨s, rfl, rfl, -⟩ := DataW.trod_string ht h
  refine ⟨s, rfl, ?_⟩
  have := hm s.data.toList.length (by simp [DataW.weights])
  rw [Array.length_toList] at this
  exact this
theorem weightsAll_mem {H : Type} {e : TypeId} : ∀ {l : List (DataW H)} {d : DataW H} {m : Nat}, d ∈ l → m ∈ d.weights P e → m ∈ DataW.weightsAll P e l
  | x :: l, d, m, hd, hm => by
    rw [DataW.weightsAll, List.mem_append]
    rcases List.mem_cons.1 hd with rfl | hd
    · exact .inl hm
    · exact .inr (weightsAll_mem hd hm)
theorem mapM_get {γ δ : Type} {f : γ → Option δ} : ∀ {l : List γ} {r : List δ}, l.mapM f = some r → ∀ (i : Nat) (x : γ), l[i]? = some x → f x = r[i]?
  | [], r, h, i, x, hx => by simp at hx
  | a :: l, r, h, i, x, hx => by
    rw [List.mapM_cons] at h
    obtain ⟨b, hb, h⟩ := Option.bind_eq_some_iff.1 h
    obtain ⟨bs, hbs, h⟩ := Option.bind_eq_some_iff.1 h
    have hr : b :: bs = r := Option.some.inj h
    subst hr
    cases i with
    | zero => simp at hx; subst hx; simpa using hb
    | succ i => simpa using mapM_get hbs i x (by simpa using hx)
theorem cells_cell {w : World} {base : Nat} {a : Addr} {n : Nat} {cs : List Value} (h : w.cells? base a n = some cs) (i : Nat) (u : Value) (hi : i < n) (hu : cs[i]? = some u) : w.cell? (a.add i) = some u := by
  unfold World.cells? at h
  split at h
  · rw [mapM_get h i i (by simp [hi]), hu]
  · cases h
theorem cell_spot {w : World} {a : Addr} {v : Value} (h : w.cell? a = some v) : a.spot = none ∧ a.block < w.heap.size := by
  unfold World.cell? at h
  split at h
  · rename_i c e f hc
    split at h
    · cases h
    · rename_i hs
      refine ⟨by cases hsp : a.spot <;> simp_all, ?_⟩
      rcases Nat.lt_or_ge a.block w.heap.size with hh | hh
      · exact hh
      · rw [Array.getElem?_eq_none hh] at hc; cases hc
  · cases h
theorem RLs.mkAt {σ : Nat → Nat → Prop} {t : Ty} {β off : Nat} : ∀ (n : Nat) (p : Nat → El t × List Value), (∀ i, i < n → RE σ W t (p i).1 (p i).2 ∧ ∀ j u, (p i).2[j]? = some u → σ β (off + (i * t.sz + j)) ∧ W.cell? ⟨β, off + (i * t.sz + j), none⟩ = some u) →
    RLs (RE σ W t) ((List.range n).map fun i => (p i).1) ((List.range n).flatMap fun i => (p i).2) ∧ Cs σ W β off ((List.range n).flatMap fun i => (p i).2)
  | 0, p, h => ⟨rfl, fun j v hv => by simp at hv⟩
  | n + 1, p, h => by
    obtain ⟨h1, h2⟩ := RLs.mkAt n p fun i hi => h i (by omega)
    obtain ⟨h3, h4⟩ := h n (by omega)
    have hl : ((List.range n).flatMap fun i => (p i).2).length = n * t.sz := by rw [h1.len]; simp
    rw [List.range_succ, List.map_append, List.flatMap_append]
    refine ⟨h1.append (by simpa using ⟨_, [], (List.append_nil _).symm, h3, rfl⟩), fun j v hv => ?_⟩
    rw [List.getElem?_append] at hv
    split at hv
    · exact h2 j v hv
    · rename_i hj
      simp only [List.flatMap_cons, List.flatMap_nil, List.append_nil] at hv
      have := h4 _ _ hv
      rw [hl] at hj this
      rw [show n * t.sz + (j - n * t.sz) = j by omega] at this
      exact this
theorem choose_fun {γ : Type} [Inhabited γ] {n : Nat} {p : Nat → γ → Prop} (h : ∀ i, i < n → ∃ x, p i x) : ∃ f : Nat → γ, ∀ i, i < n → p i (f i) := by
  classical
  exact ⟨fun i => if hi : i < n then Classical.choose (h i hi) else default, fun i hi => by
    show p i (if hi : i < n then Classical.choose (h i hi) else default)
    rw [dif_pos hi]; exact Classical.choose_spec (h i hi)⟩
instance : (t : Ty) → Inhabited (El t)
  | .int _ => ⟨(0 : Int)⟩
  | .bool => ⟨false⟩
  | .str => ⟨ByteArray.empty⟩
  | .unit => ⟨()⟩
  | .pair a b => ⟨((instInhabitedEl a).default, (instInhabitedEl b).default)⟩
  | .sl t => ⟨([] : List (El t))⟩
theorem opn_slice {t e : TypeId} {ty : Ty} (ht : P.underlying t = some (.slice e)) (hc : P.cellsOf e = ty.sz) (hB : 0 < P.bytesOf e ∧ ty.low ≤ P.bytesOf e) (hs0 : 0 < ty.sz) (h : Opn P W e ty) : Opn P W t (.sl ty) := by
  intro H enc base spare held fuel cs y hy hm
  rcases Go.Deep.open_slice ht hy with ⟨rfl, rfl⟩ | ⟨a, len, cap, m, n, D, Pl, rfl, hb, hl, hmx, hmm, rfl, hel⟩
  · exact ⟨[], ⟨none, 0, rfl, Nat.le_refl _, .inl rfl⟩, by simp, by simp, fun x hx => by cases hx⟩
  · have hw : ∀ k ∈ (DataW.slice ((List.range len).map D) ((List.range (m - len)).map fun j => D (len + j)) : DataW H).weights P t, k ≤ reachBytes := hm
    have hlm : len ≤ m := by rw [hmm]; split <;> omega
    have key : ∀ i, i < len → ∃ q : El ty × List Value, P.cellsOf e = q.2.length ∧ RE (AllOf W) W ty q.1 q.2 ∧ Wf ty q.1 ∧ ∀ j u, q.2[j]? = some u → W.cell? (a.add (i * ty.sz + j)) = some u := by
      intro i hi
      obtain ⟨cs', h1, h2⟩ := hel i (by omega)
      obtain ⟨x, hK, hQ⟩ := h H enc base spare held n cs' (D i, Pl i) h2 (fun k hk => hw k (by
        rw [DataW.weights, ht]
        simp only [List.mem_cons, List.mem_append]
        exact .inr (.inl (weightsAll_mem (List.mem_map.2 ⟨i, by simp [hi], rfl⟩) hk))))
      have hlen := hK.len
      refine ⟨(x, cs'), by rw [hc, hlen], hK, hQ, fun j u hu => ?_⟩
      have hj : j < P.cellsOf e := by have := (List.getElem?_eq_some_iff.1 hu).1; rw [hc]; simp at this; omega
      have := cells_cell h1 j u hj hu
      rw [Go.Deep.add_add, hc] at this
      exact this
    obtain ⟨f, hf⟩ := choose_fun key
    have hll : ((List.range len).map fun i => (f i).1).length = len := by simp
    refine ⟨(List.range len).map fun i => (f i).1, ⟨some a, cap, by rw [hll], by rw [hll]; exact hl, ?_⟩, ?_, ?_, ?_⟩
    · by_cases hl0 : len = 0
      · left; rw [hl0]; rfl
      · right
        have hspot : a.spot = none ∧ a.block < W.heap.size := by
          obtain ⟨g1, g2, g3, g4⟩ := hf 0 (by omega)
          have hlen : (f 0).2.length = ty.sz := g2.len
          obtain ⟨u, hu⟩ : ∃ u, (f 0).2[0]? = some u := ⟨_, List.getElem?_eq_getElem (by omega)⟩
          have := g4 0 u hu
          have h5 := cell_spot this
          cases a with
          | mk b o sp => cases sp <;> simp_all [Addr.add]
        obtain ⟨β, off, sp⟩ := a
        simp only at hspot
        obtain ⟨rfl, hβ⟩ := hspot
        obtain ⟨k1, k2⟩ := RLs.mkAt (W := W) (σ := AllOf W) (β := β) (off := off) len f fun i hi => by
          obtain ⟨g1, g2, g3, g4⟩ := hf i hi
          refine ⟨g2, fun j u hu => ⟨hβ, ?_⟩⟩
          have := g4 j u hu
          rw [addr_add] at this
          exact this
        exact ⟨β, off, _, rfl, k1, k2⟩
    · rw [hll]
      have := hw ((((List.range len).map D).length + ((List.range (m - len)).map fun j => D (len + j)).length) * P.bytesOf e) (by rw [DataW.weights, ht]; exact List.mem_cons_self ..)
      rw [List.length_map, List.length_range] at this
      have h2 : len * 1 ≤ (len + ((List.range (m - len)).map fun j => D (len + j)).length) * P.bytesOf e := Nat.mul_le_mul (Nat.le_add_right _ _) hB.1
      have h3 : reachBytes = 140737488351232 := rfl
      omega
    · rw [hll]
      have := hw ((((List.range len).map D).length + ((List.range (m - len)).map fun j => D (len + j)).length) * P.bytesOf e) (by rw [DataW.weights, ht]; exact List.mem_cons_self ..)
      rw [List.length_map, List.length_range] at this
      have h2 : len * ty.low ≤ (len + ((List.range (m - len)).map fun j => D (len + j)).length) * P.bytesOf e := Nat.mul_le_mul (Nat.le_add_right _ _) hB.2
      have h3 : reachBytes = 140737488351232 := rfl
      omega
    · intro x hx
      obtain ⟨i, hi, rfl⟩ := List.mem_map.1 hx
      exact (hf i (by simpa using hi)).2.2.1
/-- Parts in line. -/
def OpnL (P : Program) (W : World) (L : List (TypeId × Nat)) (off : Nat) (ty : Ty) : Prop :=
  ∀ (H : Type) (enc : TypeId × Value → H) (base : Nat) (spare : Nat → Bool) (held : Bool) (n : Nat) (cs : List Value) (xs : List (DataW H × List MemPlace)),
    cs.length = off + ty.sz → xs.length = L.length → (∀ (i : Nat) (q : TypeId × Nat), L[i]? = some q → DataW.trod enc P W base spare held n q.1 ((cs.drop q.2).take (P.cellsOf q.1)) = xs[i]?) →
    (∀ m ∈ DataW.weightsEach P (L.map (·.1)) (xs.map (·.1)), m ≤ reachBytes) → ∃ x : El ty, RE (AllOf W) W ty x (cs.drop off) ∧ Wf ty x
theorem opnL_one {t : TypeId} {off : Nat} {ty : Ty} (hc : P.cellsOf t = ty.sz) (h : Opn P W t ty) : OpnL P W [(t, off)] off ty := by
  intro H enc base spare held n cs xs hl hx hi hm
  have h0 := hi 0 (t, off) rfl
  match xs, hx with
  | [y], _ =>
    rw [List.take_of_length_le (by rw [List.length_drop, hl, hc]; omega)] at h0
    exact h H enc base spare held n _ y h0 (fun m hm' => hm m (by simp only [List.map_cons, List.map_nil, DataW.weightsEach, List.append_nil]; exact hm'))
theorem opnL_cons {t : TypeId} {off : Nat} {L : List (TypeId × Nat)} {ty ty1 : Ty} (hc : P.cellsOf t = ty.sz) (h : Opn P W t ty) (h1 : OpnL P W L (off + ty.sz) ty1) : OpnL P W ((t, off) :: L) off (.pair ty ty1) := by
  intro H enc base spare held n cs xs hl hx hi hm
  have h0 := hi 0 (t, off) rfl
  match xs, hx with
  | y :: xs, hx =>
    have hl' : cs.length = off + ty.sz + ty1.sz := by rw [hl]; show off + (ty.sz + ty1.sz) = _; omega
    obtain ⟨x0, k0, q0⟩ := h H enc base spare held n _ y h0 (fun m hm' => hm m (by simp only [List.map_cons, DataW.weightsEach, List.mem_append]; exact .inl hm'))
    obtain ⟨x1, k1, q1⟩ := h1 H enc base spare held n cs xs hl' (by simpa using hx) (fun i q hq => by simpa using hi (i + 1) q (by simpa using hq)) (fun m hm' => hm m (by simp only [List.map_cons, DataW.weightsEach, List.mem_append]; exact .inr hm'))
    refine ⟨(x0, x1), ⟨_, _, ?_, k0, k1⟩, q0, q1⟩
    rw [hc, ← List.drop_drop, List.take_append_drop]
theorem opn_struct {t : TypeId} {fs : Array Field} {L : List (TypeId × Nat)} {ty : Ty} (ht : P.underlying t = some (.struct fs)) (hL : fs.toList.map (fun f => (f.type, f.offset)) = L) (hc : P.cellsOf t = ty.sz) (h : OpnL P W L 0 ty) : Opn P W t ty := by
  intro H enc base spare held fuel cs y hy hm
  obtain ⟨xs, n, rfl, rfl, hlen, hxl, hi⟩ := DataW.trod_struct ht hy
  subst hL
  have := h H enc base spare held n cs xs (by rw [hlen, hc]; omega) (by rw [hxl]; simp) (fun i q hq => by
    rw [List.getElem?_map] at hq
    obtain ⟨f, hf, hfq⟩ := Option.map_eq_some_iff.1 hq
    subst hfq
    exact hi i f (by simpa using hf)) (fun m hm' => hm m (by rw [DataW.weights, ht]; rw [List.map_map] at hm'; exact hm'))
  simpa using this
theorem weightsEach_const {H : Type} {e : TypeId} : ∀ (L : List (TypeId × Nat)) (l : List (DataW H)), (∀ q ∈ L, q.1 = e) → l.length = L.length → DataW.weightsEach P (L.map (·.1)) l = DataW.weightsAll P e l
  | [], [], _, _ => rfl
  | q :: L, d :: l, hq, hl => by
    rw [List.map_cons, DataW.weightsEach, DataW.weightsAll, hq q (List.mem_cons_self ..), weightsEach_const L l (fun q' h' => hq q' (List.mem_cons_of_mem _ h')) (by simpa using hl)]
theorem opn_array {t e : TypeId} {n : Nat} {L : List (TypeId × Nat)} {ty : Ty} (ht : P.underlying t = some (.array n e)) (hL : (List.range n).map (fun i => (e, i * P.cellsOf e)) = L) (hc : P.cellsOf t = ty.sz) (h : OpnL P W L 0 ty) : Opn P W t ty := by
  intro H enc base spare held fuel cs y hy hm
  obtain ⟨xs, m, rfl, rfl, hlen, hxl, hi⟩ := DataW.trod_array ht hy
  subst hL
  have := h H enc base spare held m cs xs (by rw [hlen, hc]; omega) (by rw [hxl]; simp) (fun i q hq => by
    rw [List.getElem?_map] at hq
    obtain ⟨f, hf, hfq⟩ := Option.map_eq_some_iff.1 hq
    have hfi : f < n ∧ f = i := by
      have := List.getElem?_eq_some_iff.1 hf
      obtain ⟨h1, h2⟩ := this
      simp at h1 h2
      omega
    obtain ⟨h1, rfl⟩ := hfi
    subst hfq
    exact hi f h1) (fun m hm' => hm m (by
      rw [DataW.weights, ht]
      rw [weightsEach_const (e := e) _ _ (fun q hq => by obtain ⟨i, -, rfl⟩ := List.mem_map.1 hq; rfl) (by simp [hxl])] at hm'
      exact hm'))
  simpa using this
/-- An argument. -/
theorem opn_arg {H : Type} {enc : TypeId × Value → H} {base : Nat} {spare : Nat → Bool} {held : Bool} {t : TypeId} {ty : Ty} {v : Value} {dt : DataW H} {p : List MemPlace} {ts : List TypeId} {ds : List (DataW H)} {j : Nat} (h : Opn P W t ty)
    (hsz : (DataW.weightsEach P ts ds).all (· ≤ reachBytes) = true) (ht : ts[j]? = some t) (hd : ds[j]? = some dt) (hv : DataW.Trod enc P W base spare held t v dt p) : ∃ x : El ty, RE (AllOf W) W ty x v.cells.toList ∧ Wf ty x := by
  obtain ⟨fuel, hf⟩ := hv
  exact h H enc base spare held fuel _ _ hf (fun m hm => by
    have := List.all_eq_true.1 hsz _ (DataW.weights_mem_each ht hd m hm)
    simpa using this)
/-- A law that holds by the executor: whatever comes in, the call answers true, and nothing of what was there has turned. -/
theorem law_calls {C : Ctx} (hT : TabOk P C.T) (hG : CtxOk P C) (hm : P.follows .mixedOrders = true) {f : FuncId} {fn : Func} {c : Code} {sg : List Shp} {n : Nat} {x : El (sgTy sg)} {vs : List Value} (hf : P.funcs[f]? = some fn) (hb : fn.body = some c)
    (h : call C fn c sg (.one (.v .bool)) n x = some true) (hs : RS (AllOf W) W sg x vs) : Calls P f vs.toArray W fun e w' => e = .returned (.bool true) ∧ Below W.heap.size W w' := by
  refine (call_sound hT hG hm hf hb h (fun b o h => h) hs).mono ?_
  rintro e w' ⟨v, σ', rfl, hg, hr⟩
  have hr : [v] = [Value.bool true] := hr
  simp only [List.cons.injEq, and_true] at hr
  exact ⟨by rw [hr], hg.below⟩
end Go.Proofs.YtkaihbkfobiejaaGreatDoor.Xe
