/- The executor: what its operations answer, the machine's do. -/
import Derived.Test.YtnhogpbibcgpkaaXc
namespace Go.Proofs.Ytnhogpbibcgpkaa.Xe
open Go Go.RowKit
set_option linter.unusedVariables false
set_option linter.unusedSimpArgs false
/-! ### The table of types -/
def mkD : Option TypeDesc → D
  | some (.int k) => .int k
  | some .bool => .bool
  | some .string => .str
  | some (.slice e) => .sl e
  | some (.array n e) => .arr n e
  | some (.struct fs) => .st (fs.toList.map fun f => (f.type, f.offset))
  | some (.map k e) => .map k e
  | some (.pointer _) | some (.func ..) | some (.chan ..) | some .unsafePointer | some (.interface _) | some (.float _) | some (.complex _) => .cell
  | _ => .other
def namesOk : Option TypeDesc → Bool
  | some (.struct fs) => fs.toList.all fun f => f.name != "_"
  | _ => false
def isFalse : Value → Bool
  | .bool false => true
  | _ => false
def mkTI (P : Program) (t : TypeId) (I : TI) : TI :=
  match I.d with
  | .other => I
  | _ => match P.info? t with
    | some i => (match i.zero with
      | some z => ⟨mkD (P.underlying t), i.size, i.bytes, z.cells.toList.map ofLeaf, I.ty, I.eq && (if I.d.isBool then isFalse z else !P.stoodInHeld t && namesOk (P.underlying t))⟩
      | none => ⟨.other, 0, 0, [], none, false⟩)
    | none => ⟨.other, 0, 0, [], none, false⟩
def TabOk (P : Program) (T : List TI) : Prop := T.zipIdx.map (fun q => mkTI P q.2 q.1) = T
structure Known (P : Program) (t : TypeId) (I : TI) (i : TypeInfo) (z : Value) : Prop where
  info : P.info? t = some i
  zero : i.zero = some z
  desc : mkD (P.underlying t) = I.d
  size : i.size = I.size
  bytes : i.bytes = I.bytes
  cells : I.zero = z.cells.toList.map ofLeaf
  eq : I.eq = true → (if I.d.isBool then isFalse z else !P.stoodInHeld t && namesOk (P.underlying t)) = true
variable {P : Program} {R : Type}
theorem known {C : Ctx} (hT : TabOk P C.T) {t : TypeId} (h : (C.ti t).d ≠ .other) : ∃ i z, Known P t (C.ti t) i z := by
  unfold Ctx.ti at h ⊢
  rw [List.getD_eq_getElem?_getD] at h ⊢
  cases hI : C.T[t]? with
  | none => rw [hI] at h; exact absurd rfl h
  | some I =>
    rw [hI] at h
    have h1 : mkTI P t I = I := by
      have h2 : (C.T.zipIdx.map (fun q => mkTI P q.2 q.1))[t]? = C.T[t]? := by rw [hT]
      rw [List.getElem?_map, List.getElem?_zipIdx, hI] at h2
      simpa using h2
    simp only [Option.getD_some] at h ⊢
    unfold mkTI at h1
    split at h1
    · rename_i hd; exact absurd hd h
    · split at h1
      · rename_i i hi
        split at h1
        · rename_i z hz
          refine ⟨i, z, hi, hz, ?_, ?_, ?_, ?_, fun he => ?_⟩
          iterate 4 rw [← h1]
          rw [← h1] at he
          exact (Bool.and_eq_true_iff.1 he).2
        · exact absurd (by rw [← h1]) h
      · exact absurd (by rw [← h1]) h
theorem Known.sizeOf {t : TypeId} {I : TI} {i : TypeInfo} {z : Value} (k : Known P t I i z) (w : World) : (Go.sizeOf t).run P w = .ok I.size w := by
  simp [Go.sizeOf, typeInfo, k.info, k.size]
theorem Known.zeroValue {t : TypeId} {I : TI} {i : TypeInfo} {z : Value} (k : Known P t I i z) (w : World) : (Go.zeroValue t).run P w = .ok z w := by
  simp [Go.zeroValue, typeInfo, k.info, k.zero]
theorem und_int {u : Option TypeDesc} {k : IntKind} (h : mkD u = .int k) : u = some (.int k) := by unfold mkD at h; split at h <;> first | (cases h; done) | (cases h; rfl)
theorem und_bool {u : Option TypeDesc} (h : mkD u = .bool) : u = some .bool := by unfold mkD at h; split at h <;> first | (cases h; done) | (cases h; rfl)
theorem und_str {u : Option TypeDesc} (h : mkD u = .str) : u = some .string := by unfold mkD at h; split at h <;> first | (cases h; done) | (cases h; rfl)
theorem und_sl {u : Option TypeDesc} {e : TypeId} (h : mkD u = .sl e) : u = some (.slice e) := by unfold mkD at h; split at h <;> first | (cases h; done) | (cases h; rfl)
theorem und_arr {u : Option TypeDesc} {n : Nat} {e : TypeId} (h : mkD u = .arr n e) : u = some (.array n e) := by unfold mkD at h; split at h <;> first | (cases h; done) | (cases h; rfl)
theorem und_st {u : Option TypeDesc} {fs : List (TypeId × Nat)} (h : mkD u = .st fs) : ∃ f, u = some (.struct f) ∧ f.toList.map (fun x => (x.type, x.offset)) = fs := by
  unfold mkD at h; split at h <;> first | (cases h; done) | (cases h; exact ⟨_, rfl, rfl⟩)
theorem isAgg_of {I : TI} {t : TypeId} (hd : mkD (P.underlying t) = I.d) (ho : I.d ≠ .other) (w : World) : (Go.isAgg t).run P w = .ok I.d.isAgg w := by
  rw [← hd] at ho ⊢
  cases hu : P.underlying t with
  | none => rw [hu] at ho; exact absurd rfl ho
  | some u => cases u <;> simp [hu, mkD, D.isAgg] at ho ⊢ <;> simp [Go.isAgg, run_underlying hu]
variable {ρ : Env} {base : Nat} {σ : Nat → Nat → Prop} {w : World}
theorem RA.ofLeaf (v : Value) : RA ρ base σ w (ofLeaf v) v := by
  unfold Xe.ofLeaf
  split
  · show _ = Value.bool (decide _); rw [Bool.decide_eq_true]
  · rfl
  · rfl
  · rfl
  · rfl
  · trivial
theorem RAs.ofLeaf : ∀ (l : List Value), RAs ρ base σ w (l.map Xe.ofLeaf) l
  | [] => rfl
  | v :: l => ⟨v, l, rfl, RA.ofLeaf v, RAs.ofLeaf l⟩
theorem RA.ofV (v : Value) : RA ρ base σ w (ofV v) v := by
  unfold Xe.ofV
  split
  · exact ⟨_, rfl, RAs.ofLeaf _⟩
  · exact ⟨_, rfl, RAs.ofLeaf _⟩
  · exact RA.ofLeaf _
/-! ### What a function that is called is held to -/
def RP (σ : Nat → Nat → Prop) (w : World) (t : Ty) (x : El t) (v : Value) : Prop := ∃ β o vs, v = .pointer (some ⟨β, o, none⟩) ∧ RE σ w t x vs ∧ Cs σ w β o vs
def RPs (σ : Nat → Nat → Prop) (w : World) : (l : List Ty) → El (tysOf l) → List Value → Prop
  | [], _, vs => vs = []
  | [t], x, vs => ∃ v, vs = [v] ∧ RP σ w t x v
  | t :: r :: l, x, vs => ∃ v q, vs = v :: q ∧ RP σ w t x.1 v ∧ RPs σ w (r :: l) x.2 q
def R1 (σ : Nat → Nat → Prop) (w : World) : (s : Shp) → El s.ty → Value → Prop
  | .v t, x, v => RE σ w t x [v]
  | .a t, x, v => ∃ cs, v = .agg cs ∧ RE σ w t x cs.toList
  | .p t, x, v => RP σ w t x v
  | .fn f l, x, v => ∃ vs, v = .func (.func f) #[] vs ∧ RPs σ w l x vs.toList
theorem decP_sound {t : Ty} {a : AV} {x : El t} {v : Value} (h : decP t a = some x) (g : RA ρ base σ w a v) : RP σ w t x v := by
  unfold decP at h
  split at h
  · split at h
    · rename_i hp _
      cases hp
      obtain rfl := Option.some.inj h
      obtain ⟨β, o, vs, e, k1, k2⟩ := g
      exact ⟨β, o, vs, e, k1, k2⟩
    · cases h
  · cases h
theorem decPs_sound : ∀ {l : List Ty} {as : List AV} {x : El (tysOf l)} {vs : List Value}, decPs l as = some x → RAs ρ base σ w as vs → RPs σ w l x vs
  | [], [], x, vs, h, g => g
  | [t], [a], x, vs, h, ⟨v, r, e, g, k⟩ => ⟨v, by rw [e, show r = [] from k], decP_sound h g⟩
  | t :: r :: l, a :: as, x, vs, h, ⟨v, q, e, g, k⟩ => by
    simp only [decPs] at h
    split at h
    · rename_i y z hy hz
      obtain rfl := Option.some.inj h
      exact ⟨v, q, e, decP_sound hy g, decPs_sound hz k⟩
    · cases h
  | [], _ :: _, _, _, h, _ => by simp [decPs] at h
  | [_], [], _, _, h, _ => by simp [decPs] at h
  | [_], _ :: _ :: _, _, _, h, _ => by simp [decPs] at h
  | _ :: _ :: _, [], _, _, h, _ => by simp [decPs] at h
theorem RP.ra {t : Ty} {x : El t} {v : Value} (h : RP σ w t x v) : RA ρ base σ w (.elp t x 0) v := h
theorem RPs.ra : ∀ {l : List Ty} {x : El (tysOf l)} {vs : List Value}, RPs σ w l x vs → RAs ρ base σ w (encPs l x) vs
  | [], _, _, h => h
  | [t], x, _, ⟨v, e, h⟩ => ⟨v, [], e, RP.ra h, rfl⟩
  | t :: r :: l, x, _, ⟨v, q, e, h, k⟩ => ⟨v, q, e, RP.ra h, RPs.ra k⟩
def RS (σ : Nat → Nat → Prop) (w : World) : (sg : List Shp) → El (sgTy sg) → List Value → Prop
  | [], _, vs => vs = []
  | [s], x, vs => ∃ v, vs = [v] ∧ R1 σ w s x v
  | s :: r :: l, x, vs => ∃ v q, vs = v :: q ∧ R1 σ w s x.1 v ∧ RS σ w (r :: l) x.2 q
def RR (σ : Nat → Nat → Prop) (w : World) : (rs : Rs) → El rs.ty → Value → Prop
  | .one s, x, v => R1 σ w s x v
  | .tup l, x, v => ∃ vs, v = .tuple vs ∧ RS σ w l x vs.toList
theorem dec1_sound {s : Shp} {a : AV} {x : El s.ty} {v : Value} (h : dec1 s a = some x) (g : RA ρ base σ w a v) : R1 σ w s x v := by
  cases s with
  | v t =>
    simp only [dec1] at h
    split at h
    · rename_i y hy
      obtain rfl := Option.some.inj h
      obtain ⟨u, q, e, k, k2⟩ := dec_sound hy (show RAs ρ base σ w [a] [v] from ⟨v, [], rfl, g, rfl⟩)
      have hq : q = [] := k2
      rw [hq, List.append_nil] at e
      subst e
      exact k
    · cases h
  | a t =>
    cases a with
    | agg cs =>
      simp only [dec1] at h
      split at h
      · rename_i y hy
        obtain rfl := Option.some.inj h
        obtain ⟨vs, rfl, g'⟩ := g
        obtain ⟨u, q, e, k, k2⟩ := dec_sound hy g'
        have hq : q = [] := k2
        rw [hq, List.append_nil] at e
        exact ⟨vs, rfl, by rw [e]; exact k⟩
      · cases h
    | _ => cases h
  | p t => exact decP_sound h g
  | fn f l =>
    cases a with
    | fn g' caps =>
      simp only [dec1] at h
      split at h
      · rename_i hf
        obtain ⟨vs, e, k⟩ := g
        exact ⟨vs, by rw [e, hf], decPs_sound h k⟩
      · cases h
    | _ => cases h
theorem decs_sound : ∀ {sg : List Shp} {as : List AV} {x : El (sgTy sg)} {vs : List Value}, decs sg as = some x → RAs ρ base σ w as vs → RS σ w sg x vs
  | [], [], x, vs, h, g => g
  | [s], [a], x, vs, h, ⟨v, r, e, g, k⟩ => ⟨v, by rw [e, show r = [] from k], dec1_sound h g⟩
  | s :: r :: l, a :: as, x, vs, h, ⟨v, q, e, g, k⟩ => by
    simp only [decs] at h
    split at h
    · rename_i y z hy hz
      obtain rfl := Option.some.inj h
      exact ⟨v, q, e, dec1_sound hy g, decs_sound hz k⟩
    · cases h
  | [], _ :: _, _, _, h, _ => by simp [decs] at h
  | [_], [], _, _, h, _ => by simp [decs] at h
  | [_], _ :: _ :: _, _, _, h, _ => by simp [decs] at h
  | _ :: _ :: _, [], _, _, h, _ => by simp [decs] at h
theorem R1.ra {s : Shp} {x : El s.ty} {v : Value} (h : R1 σ w s x v) : RA ρ base σ w (enc1 s x) v := by
  cases s with
  | v t =>
    have g := RE.ra (ρ := ρ) (base := base) h
    cases he : enc t x with
    | nil => rw [he] at g; cases g
    | cons a l =>
      rw [he] at g
      obtain ⟨u, r, e, k, k2⟩ := g
      simp only [List.cons.injEq] at e
      obtain ⟨rfl, -⟩ := e
      simp only [enc1, he, List.headD_cons]; exact k
  | a t => obtain ⟨cs, rfl, g⟩ := h; exact ⟨cs, rfl, RE.ra g⟩
  | p t => exact RP.ra h
  | fn f l => obtain ⟨vs, e, g⟩ := h; exact ⟨vs, e, RPs.ra g⟩
theorem RS.ra : ∀ {sg : List Shp} {x : El (sgTy sg)} {vs : List Value}, RS σ w sg x vs → RAs ρ base σ w (encs sg x) vs
  | [], _, _, h => h
  | [s], x, _, ⟨v, e, h⟩ => ⟨v, [], e, R1.ra h, rfl⟩
  | s :: r :: l, x, _, ⟨v, q, e, h, k⟩ => ⟨v, q, e, R1.ra h, RS.ra k⟩
theorem RR.ra {rs : Rs} {x : El rs.ty} {v : Value} (h : RR σ w rs x v) : RA ρ base σ w (encR rs x) v := by
  cases rs with
  | one s => exact R1.ra h
  | tup l => obtain ⟨vs, e, g⟩ := h; exact ⟨vs, e, RS.ra g⟩
theorem decR_sound {rs : Rs} {a : AV} {x : El rs.ty} {v : Value} (h : decR rs a = some x) (g : RA ρ base σ w a v) : RR σ w rs x v := by
  cases rs with
  | one s => exact dec1_sound h g
  | tup l =>
    cases a with
    | tup as => obtain ⟨vs, e, k⟩ := g; exact ⟨vs, e, decs_sound h k⟩
    | _ => cases h
/-- New memory, and nothing else. -/
structure Grow (σ : Nat → Nat → Prop) (w : World) (σ' : Nat → Nat → Prop) (w' : World) : Prop where
  below : Below w.heap.size w w'
  sig : ∀ b o, σ b o → σ' b o
  new : ∀ b o, σ' b o → σ b o ∨ w.heap.size ≤ b
  lt : ∀ b o, σ' b o → b < w'.heap.size
def Fits (σ : Nat → Nat → Prop) (w : World) : Prop := ∀ b o, σ b o → b < w.heap.size
theorem Grow.refl (h : Fits σ w) : Grow σ w σ w := ⟨Below.refl _ _, fun _ _ h => h, fun _ _ h => .inl h, h⟩
theorem Grow.keeps {σ' : Nat → Nat → Prop} {w' : World} (h : Fits σ w) (g : Grow σ w σ' w') : Keeps σ σ' w w' :=
  ⟨g.sig, fun b o v hs hc => by rw [g.below.cell (h b o hs)]; exact hc⟩
structure ConOk (P : Program) (c : Con) : Prop where
  there : ∃ fn, P.funcs[c.id]? = some fn ∧ fn.body.isSome = true ∧ (fn.name == "runtime.NumGoroutine") = false
  calls : ∀ a b, c.f a = some b → ∀ (σ : Nat → Nat → Prop) (w : World) (vs : List Value), Fits σ w → RS σ w c.sg a vs →
    Calls P c.id vs.toArray w fun e w' => ∃ v σ', e = .returned v ∧ Grow σ w σ' w' ∧ RR σ' w' c.rs b v
theorem run_callFunc {f : FuncId} (h : ∃ fn, P.funcs[f]? = some fn ∧ fn.body.isSome = true ∧ (fn.name == "runtime.NumGoroutine") = false) (vs : Array Value) (w : World) : (callFunc f vs).run P w = .ok (.enter f vs) w := by
  obtain ⟨fn, h1, h2, h3⟩ := h
  have h4 : fn.body ≠ none := fun e => by rw [e] at h2; cases h2
  have h5 : fn.name ≠ "runtime.NumGoroutine" := fun e => by rw [e] at h3; cases h3
  simp [callFunc, h1, h5, h4]
end Go.Proofs.Ytnhogpbibcgpkaa.Xe
