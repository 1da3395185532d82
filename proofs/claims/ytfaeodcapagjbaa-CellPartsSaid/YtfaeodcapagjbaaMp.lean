/- A map from whole numbers to bools that the call itself makes: which numbers it holds as true. -/
import Derived.Test.YtfaeodcapagjbaaVInvWordsMore
import Derived.Maps.OwnSet
import Derived.Maps.OwnOps
import Derived.Maps.Views
namespace Go.Proofs.Ytfaeodcapagjbaa.Mp
open Go.RowKit Go.Proofs.YtfaeodcapagjbaaW.PrintWords Go.Maps
set_option linter.unusedVariables false
set_option linter.unusedSimpArgs false
/-- Block b is such a map, of n entries at the most. -/
def SetMap (P : Program) (k e : TypeId) (w : World) (b n : Nat) (mem : Int → Bool) : Prop :=
  ∃ D : DataW Unit, w.ownsMap P k (plainElem P e) b n D ∧ IsMap D ∧ ∀ t : Int, D.atKey (.int .i64 t) (.lit (.bool false)) = .lit (.bool (mem t))
variable {P : Program} {k e t : TypeId} {w : World} {b n : Nat} {mem : Int → Bool}
theorem made (w : World) : SetMap P k e (w.alloc (.map #[] 0)) w.heap.size 0 (fun _ => false) :=
  ⟨_, World.ownsMap_made w P k _, isMap_empty, fun t => by simp [DataW.atKey]⟩
theorem SetMap.kept {w' : World} {row : Option Nat} (h : SetMap P k e w b n mem) (hg : w.grownBy w' row) (hne : some b ≠ row) : SetMap P k e w' b n mem := by
  obtain ⟨D, h1, h2, h3⟩ := h
  exact ⟨D, h1.kept hg hne, h2, h3⟩
theorem SetMap.alloc (h : SetMap P k e w b n mem) (o : Obj) : SetMap P k e (w.alloc o) b n mem := by
  obtain ⟨D, h1, h2, h3⟩ := h
  exact ⟨D, h1.alloc o, h2, h3⟩
theorem SetMap.drewN (h : SetMap P k e w b n mem) (m : Nat) : SetMap P k e (w.drewN m) b n mem := by
  have : ∀ m (w : World), SetMap P k e w b n mem → SetMap P k e (w.drewN m) b n mem := by
    intro m
    induction m with
    | zero => intro w h; exact h
    | succ m ih =>
      intro w h
      rw [← World.drew_drewN]
      exact ih _ (by obtain ⟨D, h1, h2, h3⟩ := h; exact ⟨D, h1.drew, h2, h3⟩)
  exact this m w h
theorem SetMap.drew (h : SetMap P k e w b n mem) : SetMap P k e w.drew b n mem := by
  obtain ⟨D, h1, h2, h3⟩ := h
  exact ⟨D, h1.drew, h2, h3⟩
theorem SetMap.block (h : SetMap P k e w b n mem) : ∃ es clock, w.heap[b]? = some (.map es clock) := by
  obtain ⟨D, ⟨es, clock, hb, _⟩, _⟩ := h
  exact ⟨es, clock, hb⟩
theorem SetMap.lt (h : SetMap P k e w b n mem) : b < w.heap.size := by
  obtain ⟨es, clock, hb⟩ := h.block
  exact (Array.getElem?_eq_some_iff.1 hb).1
theorem SetMap.mono (h : SetMap P k e w b n mem) {n' : Nat} (hn : n ≤ n') : SetMap P k e w b n' mem := by
  obtain ⟨D, h1, h2, h3⟩ := h
  exact ⟨D, h1.mono hn, h2, h3⟩
theorem SetMap.congr (h : SetMap P k e w b n mem) {mem' : Int → Bool} (hm : ∀ t, mem t = mem' t) : SetMap P k e w b n mem' := by
  obtain ⟨D, h1, h2, h3⟩ := h
  exact ⟨D, h1, h2, fun t => by rw [h3, hm]⟩
section
variable {ops : Array Oper} {rest : List Oper} {o : Oper} {a : Act} {Q : Exit → Act → World → Prop}
theorem wpList_look (h : SetMap P k e w b n mem) (hg : o.guard = none) (m x : Operand) (t : TypeId) (hop : o.op = Op.lookup t m x false) (hk : P.underlying k = some (.int .i64)) (ht : P.underlying t = some (.map k e)) (he : P.underlying e = some .bool)
    (hz : (zeroValue e).run P w = .ok (.bool false) w) (hm : a.eval m = .map (some b)) (z : Int) (hx : a.eval x = .int .i64 z) (hwf : (Lit.int .i64 z).wf = true) {c : Bool} (hc : mem z = c)
    (hK : wpList P ops Q rest (a.put o.dst (.bool c)) w) : wpList P ops Q (o :: rest) a w := by
  subst hc
  obtain ⟨D, h1, h2, h3⟩ := h
  have hkey : keyOf P k (.int .i64 z) = some (.int .i64 z) := keyOf_int_mk hk hwf
  obtain ⟨v, ps, hrun, hv⟩ := h1.lookup (int_keyed hk) ht hz (plainElem_bool he false) hkey
  rw [h3 z] at hv
  have hvb : v = .bool (mem z) := by
    unfold plainElem at hv
    rw [he] at hv
    cases v <;> simp at hv
    rw [hv.1]
  subst hvb
  refine wpList_plain hg fun K' hK' => ?_
  unfold Oper.wp
  simp [execOp, hop, hm, hx, hrun, Result.andThen]
  exact hK' _ _ hK
theorem wpList_put (h : SetMap P k e w b n mem) (hg : o.guard = none) (m x v : Operand) (t : TypeId) (hop : o.op = Op.mapUpdate t m x v) (hk : P.underlying k = some (.int .i64)) (ht : P.underlying t = some (.map k e)) (he : P.underlying e = some .bool) (hn : n < 9223372036854775807)
    (hm : a.eval m = .map (some b)) (z : Int) (hx : a.eval x = .int .i64 z) (hv : a.eval v = .bool true) (hwf : (Lit.int .i64 z).wf = true)
    (hK : ∀ w', SetMap P k e w' b (n + 1) (fun y => mem y || y == z) → w.grownBy w' (some b) → wpList P ops Q rest (a.put o.dst undef) w') : wpList P ops Q (o :: rest) a w := by
  obtain ⟨D, h1, h2, h3⟩ := h
  have hkey : keyOf P k (.int .i64 z) = some (.int .i64 z) := keyOf_int_mk hk hwf
  refine wpList_mapUpdate_own w hg m x v t hop k e (int_keyed hk) ht (plainElem P e) b n D hm h1 hn _ _ _ hx hv hkey (.lit (.bool true)) [] (plainElem_bool he true) ?_
  intro w' h4 h5
  refine hK w' ⟨_, h4, h2.put _ _, fun y => ?_⟩ h5
  by_cases hy : y = z
  · subst hy
    rw [atKey_put_same h2 (by simp [WideAt.IsKeyLit])]; simp
  · have hne : (Lit.int .i64 y) ≠ (Lit.int .i64 z) := by intro hc; injection hc with _ hc; exact hy hc
    rw [atKey_put_other hne, h3]; simp [hy]
end
/-- A row of the call's own stays while the map is written. -/
theorem R_put {α : Type} {d : Kd α} {ty base : Nat} {ok : Nat → Prop} {v : Value} {xs : List α} {w' : World} (h : d.R ty w base ok v xs) (hm : SetMap P k e w b n mem) (hg : w.grownBy w' (some b)) : d.R ty w' base ok v xs := by
  obtain ⟨es, clock, hb⟩ := hm.block
  refine Kd.R_mono (Kd.R_move (Kd.R_bound h) (fun i hi => ?_)) (fun _ hk => hk.1)
  obtain ⟨-, -, h3, q, -, cells, hc⟩ := hi
  exact hg.block i h3 (fun he => by
    injection he with he
    rw [he, hb] at hc
    cases hc)
theorem SetMap.beside {α : Type} {d : Kd α} {ty base : Nat} {ok : Nat → Prop} {v : Value} {xs : List α} {w' : World} (hm : SetMap P k e w b n mem) (h : d.R ty w base ok v xs) (hg : w.grownBy w' v.ownBlock) : SetMap P k e w' b n mem := by
  obtain ⟨es, clock, hb⟩ := hm.block
  refine hm.kept hg (fun he => ?_)
  obtain ⟨cells, hc⟩ := Kd.R_typed h b he.symm
  rw [hb] at hc
  cases hc
end Go.Proofs.Ytfaeodcapagjbaa.Mp
