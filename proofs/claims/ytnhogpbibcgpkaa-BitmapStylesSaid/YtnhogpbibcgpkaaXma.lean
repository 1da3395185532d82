/- The executor: maps of the call's own. -/
import Derived.Test.YtnhogpbibcgpkaaXm
import Derived.Maps.OwnOps
import Derived.StringKeys
namespace Go.Proofs.Ytnhogpbibcgpkaa.Xe
open Go Go.RowKit
set_option linter.unusedVariables false
set_option linter.unusedSimpArgs false
variable {P : Program} {R : Type} {w0 : World} {σ0 : Nat → Nat → Prop} {ρ : Env} {σ : Nat → Nat → Prop} {w : World} {r : R}
def turnTo (w : World) (b : Nat) (o : Obj) : World := { w with heap := w.heap.setIfInBounds b o }
theorem turnTo_same {b : Nat} {o o' : Obj} (h : w.heap[b]? = some o') : (turnTo w b o).heap[b]? = some o := by
  show (w.heap.setIfInBounds b o)[b]? = _
  rw [Array.getElem?_setIfInBounds, if_pos rfl, if_pos (Array.getElem?_eq_some_iff.1 h).1]
theorem turnTo_other {b i : Nat} {o : Obj} (h : i ≠ b) : (turnTo w b o).heap[i]? = w.heap[i]? := by
  show (w.heap.setIfInBounds b o)[i]? = _
  rw [Array.getElem?_setIfInBounds, if_neg (fun e => h e.symm)]
theorem und_map {u : Option TypeDesc} {k e : TypeId} (h : mkD u = .map k e) : u = some (.map k e) := by unfold mkD at h; split at h <;> first | (cases h; done) | (cases h; rfl)
theorem Keyed.made {k e : TypeId} {u : Ty} (h : MapTy P k e u) (w : World) : Keyed P (w.alloc (.map #[] 0)) w.heap.size k e u [] :=
  ⟨h, _, World.ownsMap_made w P k _, Go.Maps.isMap_empty, fun z => ⟨fun hz => (by cases hz), fun _ => (by simp [DataW.atKey])⟩⟩
theorem MapTy.keyed {k e : TypeId} {u : Ty} (h : MapTy P k e u) : Go.Maps.Keyed P k := by
  rcases h.key with ⟨_, hk⟩ | ⟨_, hk⟩
  · exact Go.Maps.int_keyed hk
  · exact Go.Maps.string_keyed hk
theorem Keyed.look {b : Nat} {k e t : TypeId} {u : Ty} {l : List (El u)} (h : Keyed P w b k e u l) (ht : P.underlying t = some (.map k e)) {x : Value} {z : El u} (hx : keyOf P k x = some (litOf u z)) :
    ∃ c, (Instr.lookup t (.map (some b)) x false).run P w = .ok (.bool c) w ∧ (c = true ↔ z ∈ l) := by
  obtain ⟨h0, D, h1, h2, h3⟩ := h
  obtain ⟨v, ps, hrun, hv⟩ := h1.lookup h0.keyed ht (h0.zero w) (plainElem_bool h0.elem false) hx
  by_cases hm : z ∈ l
  · rw [(h3 z).1 hm] at hv
    unfold plainElem at hv
    rw [h0.elem] at hv
    cases v <;> simp at hv
    rename_i c
    exact ⟨c, hrun, by rw [hv.1]; simp [hm]⟩
  · rw [(h3 z).2 hm] at hv
    unfold plainElem at hv
    rw [h0.elem] at hv
    cases v <;> simp at hv
    rename_i c
    exact ⟨c, hrun, by rw [hv.1]; simp [hm]⟩
theorem Keyed.put {b : Nat} {k e t : TypeId} {u : Ty} {l : List (El u)} (h : Keyed P w b k e u l) (ht : P.underlying t = some (.map k e)) {x : Value} {z : El u} (hx : keyOf P k x = some (litOf u z)) (hn : l.length < maxLen)
    (hinj : ∀ y : El u, litOf u y = litOf u z → y = z) (hkl : Go.WideAt.IsKeyLit (litOf u z)) :
    ∃ w', (Instr.mapUpdate t (.map (some b)) x (.bool true)).run P w = .ok () w' ∧ Keyed P w' b k e u (l ++ [z]) ∧ w.grownBy w' (some b) := by
  obtain ⟨h0, D, h1, h2, h3⟩ := h
  obtain ⟨w', hrun, g1, g2⟩ := h1.update h0.keyed ht hn hx (plainElem_bool h0.elem true)
  refine ⟨w', hrun, ⟨h0, _, by rw [List.length_append]; exact g1, h2.put _ _, fun y => ?_⟩, g2⟩
  by_cases hy : y = z
  · subst hy
    refine ⟨fun _ => Go.Maps.atKey_put_same h2 hkl _ _, fun hm => absurd (by simp) hm⟩
  · have hne : litOf u y ≠ litOf u z := fun hc => hy (hinj y hc)
    rw [Go.Maps.atKey_put_other hne]
    refine ⟨fun hm => (h3 y).1 ?_, fun hm => (h3 y).2 ?_⟩
    · rcases List.mem_append.1 hm with hm | hm
      · exact hm
      · simp at hm; exact absurd hm hy
    · exact fun hh => hm (List.mem_append.2 (.inl hh))
theorem wf_i64 {z : Int} (h : -9223372036854775808 ≤ z ∧ z ≤ 9223372036854775807) : (Lit.int .i64 z).wf = true := by
  simp only [Lit.wf, Bool.and_eq_true, decide_eq_true_eq]
  exact ⟨h.1, h.2⟩
theorem str_inj (y z : ByteArray) (h : litOf .str y = litOf .str z) : y = z := by
  simp only [litOf, Lit.string.injEq] at h
  cases y with | mk y => cases z with | mk z => rw [ByteArray.mk.injEq]; exact Array.ext' h
theorem keyIn_sound {base : Nat} {b : Nat} {k e t : TypeId} {u : Ty} {l : List (El u)} {v : AV} {x : Value} {K : AV → Option R} (h : keyIn u l v K = some r) (g : RA ρ base σ w v x) (hk : Keyed P w b k e u l) (ht : P.underlying t = some (.map k e)) :
    ∃ av c, K av = some r ∧ (Instr.lookup t (.map (some b)) x false).run P w = .ok (.bool c) w ∧ RA ρ base σ w av (.bool c) := by
  unfold keyIn at h
  split at h
  · rename_i l z
    split at h
    · rename_i hz
      have g : x = .int .i64 z := g
      subst g
      have hkd : P.underlying k = some (.int .i64) := by rcases hk.1.key with ⟨_, q⟩ | ⟨q, _⟩ <;> first | exact q | cases q
      obtain ⟨c, h1, h2⟩ := hk.look ht (x := .int .i64 z) (z := z) (Go.Maps.keyOf_int_mk hkd (wf_i64 hz))
      exact ⟨_, c, h, h1, by show _ = Value.bool (decide _); congr 1; rw [Bool.eq_iff_iff, h2, decide_eq_true_iff]⟩
    · cases h
  · rename_i l z
    split at h
    · rename_i hz
      have g : x = .string z := g
      subst g
      have hkd : P.underlying k = some .string := by rcases hk.1.key with ⟨q, _⟩ | ⟨_, q⟩ <;> first | exact q | cases q
      obtain ⟨c, h1, h2⟩ := hk.look ht (x := .string z) (z := z) (Go.WideMaps.keyOf_string_mk hkd hz)
      exact ⟨_, c, h, h1, by show _ = Value.bool (@decide _ _); congr 1; rw [Bool.eq_iff_iff, h2, decide_eq_true_iff]⟩
    · cases h
  · cases h
theorem keyAdd_sound {base : Nat} {b : Nat} {k e t : TypeId} {u : Ty} {l : List (El u)} {v : AV} {x : Value} {K : List (El u) → Option R} (h : keyAdd u l v K = some r) (g : RA ρ base σ w v x) (hk : Keyed P w b k e u l) (ht : P.underlying t = some (.map k e)) :
    ∃ l' w', K l' = some r ∧ (Instr.mapUpdate t (.map (some b)) x (.bool true)).run P w = .ok () w' ∧ Keyed P w' b k e u l' ∧ w.grownBy w' (some b) := by
  unfold keyAdd at h
  have hml : maxLen = 9223372036854775807 := rfl
  split at h
  · rename_i l z K
    split at h
    · rename_i hz
      have g : x = .int .i64 z := g
      subst g
      have hkd : P.underlying k = some (.int .i64) := by rcases hk.1.key with ⟨_, q⟩ | ⟨q, _⟩ <;> first | exact q | cases q
      obtain ⟨w', h1, h2, h3⟩ := hk.put ht (x := .int .i64 z) (z := z) (Go.Maps.keyOf_int_mk hkd (wf_i64 ⟨hz.1, hz.2.1⟩)) (by rw [hml]; exact hz.2.2) (fun y hy => by injection hy) (by simp [Go.WideAt.IsKeyLit, litOf])
      exact ⟨_, w', h, h1, h2, h3⟩
    · cases h
  · rename_i l z K
    split at h
    · rename_i hz
      have g : x = .string z := g
      subst g
      have hkd : P.underlying k = some .string := by rcases hk.1.key with ⟨q, _⟩ | ⟨_, q⟩ <;> first | exact q | cases q
      obtain ⟨w', h1, h2, h3⟩ := hk.put ht (x := .string z) (z := z) (Go.WideMaps.keyOf_string_mk hkd hz.1) (by rw [hml]; exact hz.2) (str_inj · z) (by simp [Go.WideAt.IsKeyLit, litOf])
      exact ⟨_, w', h, h1, h2, h3⟩
    · cases h
  · cases h
theorem mapTy {C : Ctx} (hT : TabOk P C.T) {k e : TypeId} {u : Ty} (hk : keyTy (C.ti k).d = some u) (he : (C.ti e).d.isBool = true) (hz : (C.ti e).eq = true) : MapTy P k e u := by
  have hed : (C.ti e).d = .bool := by cases hd : (C.ti e).d <;> rw [hd] at he <;> first | rfl | cases he
  obtain ⟨i, z, kn⟩ := known (P := P) hT (t := e) (by rw [hed]; exact fun x => by cases x)
  have hzf := kn.eq hz
  rw [he] at hzf
  simp only [if_true] at hzf
  have hz0 : z = .bool false := by
    unfold isFalse at hzf
    split at hzf
    · rfl
    · cases hzf
  refine ⟨?_, und_bool (kn.desc.trans hed), fun w => by rw [kn.zeroValue w, hz0]⟩
  have hne : (C.ti k).d ≠ .other := fun x => by rw [x] at hk; cases hk
  obtain ⟨i2, z2, kk⟩ := known (P := P) hT hne
  unfold keyTy at hk
  split at hk
  · rename_i hd; left; exact ⟨(Option.some.inj hk).symm, und_int (kk.desc.trans hd)⟩
  · rename_i hd; right; exact ⟨(Option.some.inj hk).symm, und_str (kk.desc.trans hd)⟩
  · cases hk
end Go.Proofs.Ytnhogpbibcgpkaa.Xe
