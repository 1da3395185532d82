/- The executor: a region whose order is open: the proof. -/
import Derived.Test.YtnhogpbibcgpkaaXq
namespace Go.Proofs.Ytnhogpbibcgpkaa.Xe
open Go Go.RowKit
set_option linter.unusedVariables false
set_option linter.unusedSimpArgs false
variable {P : Program} {R : Type} {w0 : World} {σ0 : Nat → Nat → Prop} {r : R}
theorem ancs_pre : ∀ (l : List Oper) (acc : List (List Nat)) (x : Nat), x < acc.length → (ancs l acc).getD x [] = acc.getD x []
  | [], _, _, _ => rfl
  | o :: l, acc, x, h => by
    rw [ancs, ancs_pre l _ x (by simp; omega)]
    rw [List.getD_eq_getElem?_getD, List.getD_eq_getElem?_getD, List.getElem?_append_left h]
theorem ancs_get : ∀ (l : List Oper) (acc : List (List Nat)) (k : Nat) (o : Oper), l[k]? = some o → ∀ j ∈ (ancs l acc).getD (acc.length + k) [], ∃ e ∈ aft o, j = e.on ∨ j ∈ (ancs l acc).getD e.on []
  | [], _, _, _, h, _, _ => by simp at h
  | o' :: l, acc, 0, o, h, j, hj => by
    simp at h; subst h
    rw [ancs] at hj ⊢
    rw [ancs_pre l _ _ (by simp)] at hj
    rw [List.getD_eq_getElem?_getD, Nat.add_zero, List.getElem?_append_right (Nat.le_refl _), Nat.sub_self] at hj
    have hj : j ∈ ancOf acc o' := hj
    unfold ancOf at hj
    obtain ⟨e, he, hj⟩ := List.mem_flatMap.1 hj
    refine ⟨e, he, ?_⟩
    rcases List.mem_cons.1 hj with h | h
    · exact .inl h
    · right
      have hlt : e.on < acc.length := by
        rw [List.getD_eq_getElem?_getD] at h
        cases hx : acc[e.on]? with
        | none => rw [hx] at h; cases h
        | some _ => exact (List.getElem?_eq_some_iff.1 hx).1
      rw [ancs_pre l _ _ (by simp; omega), List.getD_eq_getElem?_getD, List.getElem?_append_left hlt, ← List.getD_eq_getElem?_getD]
      exact h
  | o' :: l, acc, k + 1, o, h, j, hj => by
    rw [ancs] at hj ⊢
    have := ancs_get l (acc ++ [ancOf acc o']) k o (by simpa using h) j (by
      rw [List.length_append, List.length_singleton]
      rw [show acc.length + 1 + k = acc.length + (k + 1) by omega]
      exact hj)
    exact this
/-- Which variables a region makes. -/
structure Made (C : Ctx) (l : List Oper) (s s' : St) (idf : Nat → Nat) : Prop where
  len : s'.tmps.length = s.tmps.length
  alive : s'.alive = s.alive
  old : ∀ b, b < s.boxes.length → s'.boxes[b]? = s.boxes[b]?
  le : s.boxes.length ≤ s'.boxes.length
  new : ∀ (i : Nat) o e, l[i]? = some o → o.op = .alloc e → s.boxes.length ≤ idf i ∧ s'.boxes[idf i]? = some (C.ti e).zero
  all : ∀ b, s.boxes.length ≤ b → b < s'.boxes.length → ∃ (i : Nat) (o : Oper), l[i]? = some o ∧ isAlloc o.op = true ∧ idf i = b
  inj : ∀ (i j : Nat) o p, l[i]? = some o → l[j]? = some p → isAlloc o.op = true → isAlloc p.op = true → idf i = idf j → i = j
  dst : ∀ (i : Nat) o d, l[i]? = some o → isAlloc o.op = true → o.dst = some d → d < s.tmps.length → s'.tmps.getD d .junk = .ptr (idf i) 0
  keep : ∀ t, (∀ (i : Nat) o, l[i]? = some o → isAlloc o.op = true → o.dst ≠ some t) → s'.tmps.getD t .junk = s.tmps.getD t .junk
theorem preAlloc_other {C : Ctx} {o : Oper} (l : List Oper) (s : St) (h : isAlloc o.op = false) : preAlloc C (o :: l) s = preAlloc C l s := by
  rw [preAlloc]
  split
  · rename_i e he; rw [he] at h; cases h
  · rfl
theorem made_of (C : Ctx) : ∀ (l : List Oper) (s : St), (∀ (i j : Nat) o p d, l[i]? = some o → l[j]? = some p → o.dst = some d → p.dst = some d → i = j) → ∃ idf, Made C l s (preAlloc C l s) idf
  | [], s, _ => ⟨fun _ => 0, ⟨rfl, rfl, fun _ _ => rfl, Nat.le_refl _, fun i o e h => by simp at h, fun b h1 h2 => by simp only [preAlloc] at h2; omega, fun i j o p h => by simp at h, fun i o d h => by simp at h, fun _ _ => rfl⟩⟩
  | o :: l, s, hd => by
    have hd' : ∀ (i j : Nat) o' p d, l[i]? = some o' → l[j]? = some p → o'.dst = some d → p.dst = some d → i = j := fun i j o' p d h1 h2 h3 h4 => by
      have := hd (i + 1) (j + 1) o' p d (by simpa using h1) (by simpa using h2) h3 h4; omega
    cases ha : isAlloc o.op with
    | false =>
      obtain ⟨idf, m⟩ := made_of C l s hd'
      rw [preAlloc_other l s ha]
      refine ⟨fun i => idf (i - 1), ⟨m.len, m.alive, m.old, m.le, fun i o' e h1 h2 => ?_, fun b h1 h2 => ?_, fun i j o' p h1 h2 h3 h4 h5 => ?_, fun i o' d h1 h2 h3 h4 => ?_, fun t ht => m.keep t fun i o' h1 h2 => ht (i + 1) o' (by simpa using h1) h2⟩⟩
      · cases i with
        | zero => simp at h1; subst h1; rw [h2] at ha; cases ha
        | succ i => exact m.new i o' e (by simpa using h1) h2
      · obtain ⟨i, o', e1, e2, e3⟩ := m.all b h1 h2; exact ⟨i + 1, o', by simpa using e1, e2, e3⟩
      · cases i with
        | zero => simp at h1; subst h1; rw [ha] at h3; cases h3
        | succ i =>
        cases j with
        | zero => simp at h2; subst h2; rw [ha] at h4; cases h4
        | succ j => rw [m.inj i j o' p (by simpa using h1) (by simpa using h2) h3 h4 h5]
      · cases i with
        | zero => simp at h1; subst h1; rw [ha] at h2; cases h2
        | succ i => exact m.dst i o' d (by simpa using h1) h2 h3 h4
    | true =>
      obtain ⟨e0, he0⟩ : ∃ e, o.op = .alloc e := by cases hh : o.op <;> rw [hh] at ha <;> first | exact ⟨_, rfl⟩ | cases ha
      have hpre : preAlloc C (o :: l) s = preAlloc C l ({ s with boxes := s.boxes ++ [(C.ti e0).zero] }.put o.dst (.ptr s.boxes.length 0)) := by rw [preAlloc, he0]
      obtain ⟨idf, m⟩   := made_of C l ({ s with boxes := s.boxes ++ [(C.ti e0).zero] }.put o.dst (.ptr s.boxes.length 0)) hd'
      rw [hpre]
      have hbx : ({ s with boxes := s.boxes ++ [(C.ti e0).zero] }.put o.dst (.ptr s.boxes.length 0) : St).boxes = s.boxes ++ [(C.ti e0).zero] := St.put_boxes ..
      have hal : ({ s with boxes := s.boxes ++ [(C.ti e0).zero] }.put o.dst (.ptr s.boxes.length 0) : St).alive = s.alive := St.put_alive ..
      have hln : ({ s with boxes := s.boxes ++ [(C.ti e0).zero] }.put o.dst (.ptr s.boxes.length 0) : St).tmps.length = s.tmps.length := put_len ..
      have hgd : ∀ t, ({ s with boxes := s.boxes ++ [(C.ti e0).zero] }.put o.dst (.ptr s.boxes.length 0) : St).tmps.getD t .junk = if o.dst = some t ∧ t < s.tmps.length then .ptr s.boxes.length 0 else s.tmps.getD t .junk := fun t => put_getD ..
      obtain ⟨m1, m2, m3, m4, m5, m6, m7, m8, m9⟩ := m
      rw [hbx, List.length_append, List.length_singleton] at m3 m4 m5 m6
      rw [hal] at m2
      rw [hln] at m1 m8
      refine ⟨fun i => if i = 0 then s.boxes.length else idf (i - 1), ⟨m1, m2, fun b hb => ?_, by omega, fun i o' e h1 h2 => ?_, fun b h1 h2 => ?_, fun i j o' p h1 h2 h3 h4 h5 => ?_, fun i o' d h1 h2 h3 h4 => ?_, fun t ht => ?_⟩⟩
      · rw [m3 b (by omega), List.getElem?_append_left hb]
      · cases i with
        | zero =>
          simp at h1; subst h1
          rw [he0] at h2; cases h2
          refine ⟨Nat.le_refl _, ?_⟩
          show (preAlloc C l _).boxes[s.boxes.length]? = _
          rw [m3 _ (by omega)]; simp
        | succ i =>
          have := m5 i o' e (by simpa using h1) h2
          exact ⟨Nat.le_trans (Nat.le_succ _) this.1, this.2⟩
      · by_cases hb : b = s.boxes.length
        · exact ⟨0, o, rfl, ha, by rw [hb]; rfl⟩
        · obtain ⟨i, o', e1, e2, e3⟩ := m6 b (by omega) h2; exact ⟨i + 1, o', by simpa using e1, e2, e3⟩
      · cases i with
        | zero =>
          cases j with
          | zero => rfl
          | succ j =>
            obtain ⟨e', he'⟩ : ∃ e, p.op = .alloc e := by cases hh : p.op <;> rw [hh] at h4 <;> first | exact ⟨_, rfl⟩ | cases h4
            have := (m5 j p e' (by simpa using h2) he').1
            have h5 : s.boxes.length = idf j := h5
            omega
        | succ i =>
          cases j with
          | zero =>
            obtain ⟨e', he'⟩ : ∃ e, o'.op = .alloc e := by cases hh : o'.op <;> rw [hh] at h3 <;> first | exact ⟨_, rfl⟩ | cases h3
            have := (m5 i o' e' (by simpa using h1) he').1
            have h5 : idf i = s.boxes.length := h5
            omega
          | succ j => rw [m7 i j o' p (by simpa using h1) (by simpa using h2) h3 h4 h5]
      · cases i with
        | zero =>
          simp at h1; subst h1
          show (preAlloc C l _).tmps.getD d .junk = .ptr s.boxes.length 0
          rw [m9 d fun k q hk hq hqd => by have := hd 0 (k + 1) o q d rfl (by simpa using hk) h3 hqd; omega, hgd, if_pos ⟨h3, h4⟩]
        | succ i => exact m8 i o' d (by simpa using h1) h2 h3 h4
      · rw [m9 t fun k q hk hq => ht (k + 1) q (by simpa using hk) hq, hgd, if_neg fun hh => ht 0 o rfl ha hh.1]
end Go.Proofs.Ytnhogpbibcgpkaa.Xe
