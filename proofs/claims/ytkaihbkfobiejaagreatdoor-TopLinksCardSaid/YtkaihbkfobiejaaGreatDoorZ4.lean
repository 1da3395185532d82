import Derived.Test.YtkaihbkfobiejaaGreatDoorZ3
namespace Go.Proofs.YtkaihbkfobiejaaGreatDoor.Xe
open Go Go.RowKit
set_option linter.unusedVariables false
set_option linter.unusedSimpArgs false
variable {R : Type}
theorem obind {α β γ : Type} (x : Option α) (f : α → Option β) (g : β → Option γ) : (x.bind f).bind g = x.bind fun a => (f a).bind g := by cases x <;> rfl
theorem bop_nat (op : BinOp) (k : IntKind) (x y : Int) (K : AV → Option R) : bop op k x y K = (bop op k x y some).bind K := by
 cases op <;> simp only [bop] <;> first | rfl | (split <;> rfl)
theorem shop_nat (op : BinOp) (k : IntKind) (x y : Int) (K : AV → Option R) : shop op k x y K = (shop op k x y some).bind K := by
 cases op <;> simp only [shop] <;> first | rfl | (split <;> rfl)
theorem sop_nat (op : BinOp) (x y : ByteArray) (K : AV → Option R) : sop op x y K = (sop op x y some).bind K := by
 cases op <;> simp only [sop] <;> first | rfl | (cases scat x y <;> rfl)
theorem sameK_nat (q : Option (Σ' p : Prop, Decidable p)) (op : BinOp) (K : AV → Option R) : sameK q op K = (sameK q op some).bind K := by
 unfold sameK; split <;> rfl
theorem asInt_nat {S : Type} (v : AV) (L : Int → Option S) (L' : Int → Option R) (K : S → Option R) (h : ∀ n, L' n = (L n).bind K) : asInt v L' = (asInt v L).bind K := by
 cases v <;> simp only [asInt] <;> first | rfl | exact h _
theorem orInt_nat {S : Type} (d : Int) (v : Option AV) (L : Int → Option S) (L' : Int → Option R) (K : S → Option R) (h : ∀ n, L' n = (L n).bind K) : orInt d v L' = (orInt d v L).bind K := by
 cases v <;> simp only [orInt]
 ·exact h _
 ·exact asInt_nat _ _ _ _ h
theorem pickAt_nat {S : Type} (i : Int) (L : Nat → Option S) (L' : Nat → Option R) (K : S → Option R) (h : ∀ n, L' n = (L n).bind K) : ∀ n j, pickAt i L' n j = (pickAt i L n j).bind K
 | 0, j => rfl
 | n + 1, j => by
  simp only [pickAt]
  split
  ·exact h _
  ·exact pickAt_nat i L L' K h n (j + 1)
theorem partOf_nat (I : TI) (cs : List AV) (off : Nat) (K : AV → Option R) : partOf I cs off K = (partOf I cs off some).bind K := by
 unfold partOf
 dsimp only
 split
 ·rfl
 ·split <;> rfl
 ·split <;> rfl
 ·split
  ·split <;> rfl
  ·rfl
theorem callOf_nat (C : Ctx) (f : FuncId) (args : List AV) (K : AV → Option R) : callOf C f args K = (callOf C f args some).bind K := by
 unfold callOf
 split
 ·split
  ·rw [obind]; rfl
  ·rfl
 ·rfl
theorem built_nat {S : Type} (C : Ctx) (ρ : Operand → AV) (t : TypeId) (n : Nat) (parts : List (Nat × Operand)) (L : (t : Ty) → List (El t) → Option S) (L' : (t : Ty) → List (El t) → Option R) (K : S → Option R) (h : ∀ t l, L' t l = (L t l).bind K) :
  built C ρ t n parts L' = (built C ρ t n parts L).bind K := by
 unfold built
 split
 ·dsimp only
  split
  ·split
   ·split
    ·split
     ·exact h _ _
     ·rfl
    ·rfl
   ·rfl
  ·rfl
 ·rfl
theorem xa_nat (C : Ctx) (ρ : Operand → AV) (o : Op) (K : AV → Option R) : xa C ρ o K = (xa C ρ o some).bind K := by
 cases o with
 | move x => rfl
 | assign x => rfl
 | pick c a b => simp only [xa]; split <;> first | rfl | (split <;> rfl)
 | build t parts =>
  simp only [xa]
  split
  ·split
   ·split <;> rfl
   ·rfl
  ·split
   ·split <;> rfl
   ·rfl
  ·rfl
 | buildSlice t n parts => simp only [xa]; exact built_nat C ρ t n _ _ _ K (fun _ _ => by split <;> rfl)
 | nilCheck x => simp only [xa]; split <;> rfl
 | binOp op xt x y yt =>
  simp only [xa]
  split
  ·split
   ·exact shop_nat ..
   ·exact shop_nat ..
   ·split
    ·exact bop_nat ..
    ·rfl
  ·exact sop_nat ..
  ·split <;> rfl
  ·split
   ·split <;> rfl
   ·split <;> rfl
   ·rfl
  ·split
   ·split
    ·exact sameK_nat ..
    ·rfl
   ·split
    ·exact sameK_nat ..
    ·rfl
   ·rfl
  ·rfl
 | unOp op t x => simp only [xa]; split <;> rfl
 | convert s d x =>
  simp only [xa]
  split
  ·rfl
  ·split
   ·rfl
   ·rfl
   ·split
    ·split <;> rfl
    ·rfl
   ·rfl
 | slice t x lo hi mx =>
  cases mx with
  | some m => simp [xa]
  | none =>
   simp only [xa]
   split
   ·exact orInt_nat _ _ _ _ K fun l => orInt_nat _ _ _ _ K fun h => by rw [obind]; rfl
   ·split
    ·exact orInt_nat _ _ _ _ K fun l => orInt_nat _ _ _ _ K fun h => by rw [obind]; rfl
    ·rfl
   ·split
    ·exact orInt_nat _ _ _ _ K fun l => orInt_nat _ _ _ _ K fun h => by split <;> rfl
    ·rfl
   ·split
    ·split <;> rfl
    ·rfl
   ·rfl
 | fieldAddr t x f =>
  simp only [xa]
  split
  ·split
   ·split
    ·rfl
    ·split <;> rfl
   ·rfl
  ·rfl
 | field t x f =>
  simp only [xa]
  split
  ·split
   ·exact partOf_nat ..
   ·rfl
  ·rfl
 | indexAddr t x i =>
  simp only [xa]
  split
  ·split
   ·rfl
   ·exact asInt_nat _ _ _ K fun n => by refine pickAt_nat _ _ _ K (fun m => ?_) _ _; rfl
  ·split
   ·rfl
   ·exact asInt_nat _ _ _ K fun n => by refine pickAt_nat _ _ _ K (fun m => ?_) _ _; rfl
  ·split
   ·exact asInt_nat _ _ _ K fun n => by rw [obind]; rfl
   ·rfl
  ·split
   ·exact asInt_nat _ _ _ K fun n => by split <;> rfl
   ·rfl
  ·rfl
 | index t x i =>
  simp only [xa]
  split
  ·exact asInt_nat _ _ _ K fun n => pickAt_nat _ _ _ K (fun m => partOf_nat ..) _ _
  ·exact asInt_nat _ _ _ K fun n => by rw [obind]; rfl
  ·rfl
 | extract x i =>
  simp only [xa]
  split
  ·split <;> rfl
  ·rfl
 | makeFunc fn first caps =>
  cases fn with
  | func f => simp only [xa]; split <;> rfl
  | _ => simp [xa]
 | call c =>
  simp only [xa]
  split
  ·split
   ·exact callOf_nat ..
   ·rfl
  ·split
   ·split <;> rfl
   ·rfl
  ·split
   ·split
    ·split <;> rfl
    ·rfl
   ·rfl
  ·split
   ·split
    ·split <;> rfl
    ·rfl
   ·rfl
  ·rfl
 | _ => simp [xa]
theorem keyIn_nat (u : Ty) (l : List (El u)) (v : AV) (K : AV → Option R) : keyIn u l v K = (keyIn u l v some).bind K := by
 unfold keyIn
 split
 ·split <;> rfl
 ·split <;> rfl
 ·rfl
theorem keyAdd_nat (u : Ty) (l : List (El u)) (v : AV) (K : List (El u) → Option R) : keyAdd u l v K = (keyAdd u l v some).bind K := by
 cases u with
 | int k => cases k <;> cases v <;> first | rfl | (rename_i k' z; cases k' <;> first | rfl | (simp only [keyAdd]; split <;> rfl))
 | str => cases v <;> first | rfl | (simp only [keyAdd]; split <;> rfl)
 | _ => rfl
def pairK (v : AV) (s : St) : Option (AV × St) := some (v, s)
theorem callS_nat (C : Ctx) (s : St) (f : FuncId) (args : List AV) (K : AV → St → Option R) : callS C s f args K = (callS C s f args pairK).bind fun q => K q.1 q.2 := by
 unfold callS
 split
 ·split
  ·rw [obind]; rfl
  ·rfl
 ·split
  ·split
   ·split
    ·split
     ·rw [obind]; rfl
     ·rfl
    ·rfl
   ·rw [callOf_nat, callOf_nat _ _ _ (fun v => pairK v s), obind]; rfl
  ·rfl
theorem xm_nat (C : Ctx) (s : St) (o : Op) (K : AV → St → Option R) : xm C s o K = (xm C s o pairK).bind fun q => K q.1 q.2 := by
 have other : ∀ o, xa C (ev s) o (fun v => K v s) = (xa C (ev s) o fun v => pairK v s).bind fun q => K q.1 q.2 := fun o => by
  rw [xa_nat, xa_nat _ _ _ (fun v => pairK v s), obind]; rfl
 unfold xm
 split
 ·split
  ·split
   ·split
    ·rw [obind]; rfl
    ·rfl
   ·split
    ·split
     ·split
      ·split <;> rfl
      ·rfl
     ·rfl
    ·rfl
   ·rfl
  ·exact other _
 ·split
  ·exact callS_nat ..
  ·rfl
 ·exact other _
theorem xs_nat (C : Ctx) (dr : Bool) (s : St) (o : Op) (K : AV → St → Option R) : xs C dr s o K = (xs C dr s o pairK).bind fun q => K q.1 q.2 := by
 unfold xs
 split
 ·split <;> rfl
 ·split <;> rfl
 ·unfold xload
  split
  ·rw [partOf_nat, partOf_nat _ _ _ (fun v => pairK v s), obind]; rfl
  ·rfl
 ·split
  ·split
   ·split <;> rfl
   ·rfl
  ·split
   ·split
    ·split
     ·rw [obind]; rfl
     ·rfl
    ·rfl
   ·rfl
  ·rfl
 ·refine built_nat C _ _ _ _ _ _ _ (fun t l => ?_)
  split
  ·split <;> rfl
  ·rfl
 ·split
  ·split
   ·split
    ·split
     ·split
      ·split
       ·split
        ·split <;> rfl
        ·rfl
       ·rfl
      ·split <;> rfl
     ·rfl
    ·rfl
   ·rfl
  ·rfl
 ·split
  ·split
   ·split
    ·split
     ·split
      ·rw [obind]; rfl
      ·rw [obind]; rfl
      ·split
       ·rw [obind]; rfl
       ·rfl
      ·rfl
     ·rfl
    ·rfl
   ·rfl
  ·rfl
 ·split
  ·split
   ·split <;> rfl
   ·rfl
  ·rfl
 ·split
  ·split
   ·split
    ·rw [keyIn_nat, keyIn_nat _ _ _ (fun v => pairK v s), obind]; rfl
    ·rfl
   ·rfl
  ·rfl
 ·split
  ·split
   ·split
    ·rw [keyAdd_nat, keyAdd_nat _ _ _ (fun l' => pairK _ _), obind]; rfl
    ·rfl
   ·rfl
  ·rfl
 ·split
  ·split <;> rfl
  ·rfl
 ·split
  ·split
   ·split
    ·split <;> rfl
    ·rfl
   ·rfl
  ·rfl
 ·split
  ·split
   ·split
    ·split
     ·split
      ·split
       ·rw [obind]; rfl
       ·rfl
      ·rfl
     ·split
      ·split
       ·split
        ·split <;> rfl
        ·rfl
       ·rfl
      ·rfl
    ·rfl
   ·rfl
  ·rfl
 ·split
  ·rw [xa_nat, xa_nat _ _ _ (fun v => pairK v s), obind]; rfl
  ·exact xm_nat ..
variable {P : Program} {R : Type} {w0 : World} {σ0 : Nat → Nat → Prop} {ρ : Env} {σ : Nat → Nat → Prop} {w : World} {r : R}
inductive Grd (ops : Array Oper) (o : Oper) (s : St) : St → Bool → Prop
 | free : o.guard = none → Grd ops o s s true
 | none {j w} : o.guard = some (j, w) → guardTmp ops j = none → Grd ops o s s false
 | yes {j w t} {p : Prop} {d : Decidable p} : o.guard = some (j, w) → guardTmp ops j = some t → s.tmps.getD t .junk = .bool p d → p → Grd ops o s (s.put (some t) (.bool True inferInstance)) w
 | no {j w t} {p : Prop} {d : Decidable p} : o.guard = some (j, w) → guardTmp ops j = some t → s.tmps.getD t .junk = .bool p d → ¬ p → Grd ops o s (s.put (some t) (.bool False inferInstance)) (!w)
 | tup {j w t} : o.guard = some (j, w) → guardTmp ops j = some t → s.tmps.getD t .junk = .tup [] → Grd ops o s s false
inductive Stp (C : Ctx) (ops : Array Oper) (o : Oper) (s : St) : St → Prop
 | alloc : isAlloc o.op = true → Stp C ops o s s
 | exec {s' s2 av} : isAlloc o.op = false → Grd ops o s s' true → badOp C ops s' o = false → xs C true s' o.op pairK = some (av, s2) → Stp C ops o s (s2.put o.dst av)
 | skip {s'} : isAlloc o.op = false → Grd ops o s s' false → Stp C ops o s (s'.put o.dst (.tup []))
theorem trace {C : Ctx} {ops : Array Oper} {K : St → Option R} : ∀ (l : List Oper) {s : St}, xops C true ops l s K = some r → ∃ S : Nat → St, S 0 = s ∧ (∀ (j : Nat) o, l[j]? = some o → Stp C ops o (S j) (S (j + 1))) ∧ K (S l.length) = some r
 | [], s, h => ⟨fun _ => s, rfl, fun j o hj => by simp at hj, h⟩
 | o :: l, s, h => by
  have go : ∀ {s1 : St}, Stp C ops o s s1 → xops C true ops l s1 K = some r → ∃ S : Nat → St, S 0 = s ∧ (∀ (j : Nat) o', (o :: l)[j]? = some o' → Stp C ops o' (S j) (S (j + 1))) ∧ K (S (o :: l).length) = some r := by
   intro s1 hs h1
   obtain ⟨S, e, hst, hk⟩ := trace l h1
   refine ⟨fun | 0 => s | x + 1 => S x, rfl, fun j o' hj => ?_, hk⟩
   cases j with
   | zero => simp at hj; subst hj; show Stp C ops o s (S 0); rw [e]; exact hs
   | succ j => exact hst j o' (by simpa using hj)
  have ex : ∀ {s' : St}, isAlloc o.op = false → Grd ops o s s' true → xsd C true ops s' o (fun v q => xops C true ops l (q.put o.dst v) K) = some r → ∃ S : Nat → St, S 0 = s ∧ (∀ (j : Nat) o', (o :: l)[j]? = some o' → Stp C ops o' (S j) (S (j + 1))) ∧ K (S (o :: l).length) = some r := by
   intro s' ha hg h1
   unfold xsd at h1
   by_cases hb : badOp C ops s' o = true
   ·rw [if_pos ⟨rfl, hb⟩] at h1; cases h1
   have hfl : badOp C ops s' o = false := by simpa using hb
   rw [if_neg (fun e => hb e.2), xs_nat] at h1
   obtain ⟨⟨av, s2⟩, h2, h3⟩ := Option.bind_eq_some_iff.1 h1
   exact go (.exec ha hg hfl h2) h3
  simp only [xops] at h
  split at h
  ·rename_i ha; exact go (.alloc ha.2) h
  ·rename_i hna
   have ha : isAlloc o.op = false := by cases hh : isAlloc o.op <;> simp_all
   split at h
   ·rename_i hg; exact ex ha (.free hg) h
   ·rename_i j w hg
    split at h
    ·rename_i ht; exact go (.skip ha (.none hg ht)) h
    ·rename_i t ht
     split at h
     ·rename_i p d hp
      split at h
      ·rename_i hpp
       cases w with
       | true => exact ex ha (.yes hg ht hp hpp) h
       | false => exact go (.skip ha (.yes hg ht hp hpp)) h
      ·rename_i hpp
       cases w with
       | true => exact go (.skip ha (.no hg ht hp hpp)) h
       | false => exact ex ha (.no hg ht hp hpp) h
     ·rename_i hp; exact go (.skip ha (.tup hg ht hp)) h
     ·cases h
def Eqv (x y : AV) : Prop := ∀ ρ base σ w v, RA ρ base σ w x v ↔ RA ρ base σ w y v
theorem Eqv.refl (x : AV) : Eqv x x := fun _ _ _ _ _ => Iff.rfl
theorem Eqv.trans {x y z : AV} (h : Eqv x y) (g : Eqv y z) : Eqv x z := fun ρ b σ w v => (h ρ b σ w v).trans (g ρ b σ w v)
theorem Eqv.symm {x y : AV} (h : Eqv x y) : Eqv y x := fun ρ b σ w v => (h ρ b σ w v).symm
theorem eqv_true {p : Prop} {d : Decidable p} (hp : p) : Eqv (.bool p d) (.bool True inferInstance) := fun _ _ _ _ v => by
 show v = .bool (@decide p d) ↔ v = .bool (decide True)
 rw [show @decide p d = decide True by simp [hp]]
theorem eqv_false {p : Prop} {d : Decidable p} (hp : ¬ p) : Eqv (.bool p d) (.bool False inferInstance) := fun _ _ _ _ v => by
 show v = .bool (@decide p d) ↔ v = .bool (decide False)
 rw [show @decide p d = decide False by simp [hp]]
theorem put_getD (s : St) (d : Option Tmp) (v : AV) (t : Nat) : (s.put d v).tmps.getD t .junk = if d = some t ∧ t < s.tmps.length then v else s.tmps.getD t .junk := by
 cases d with
 | none => rw [if_neg (fun h => by cases h.1)]; rfl
 | some d =>
  show (s.tmps.set d v).getD t .junk = _
  rw [List.getD_eq_getElem?_getD, List.getElem?_set]
  by_cases h : d = t
  ·subst h
   by_cases hl : d < s.tmps.length
   ·rw [if_pos rfl, if_pos hl, if_pos ⟨rfl, hl⟩]; rfl
   ·have hn : s.tmps[d]? = none := List.getElem?_eq_none (Nat.le_of_not_lt hl)
    rw [if_pos rfl, if_neg hl, if_neg (fun h => hl h.2), List.getD_eq_getElem?_getD, hn]
  ·rw [if_neg h, if_neg (fun e => h (Option.some.inj e.1)), List.getD_eq_getElem?_getD]
theorem put_len (s : St) (d : Option Tmp) (v : AV) : (s.put d v).tmps.length = s.tmps.length := by cases d <;> simp [St.put]
theorem Grd.same {ops : Array Oper} {o : Oper} {s s' : St} {b : Bool} (h : Grd ops o s s' b) : s'.boxes = s.boxes ∧ s'.alive = s.alive ∧ s'.tmps.length = s.tmps.length ∧ ∀ t, Eqv (s.tmps.getD t .junk) (s'.tmps.getD t .junk) := by
 cases h with
 | free => exact ⟨rfl, rfl, rfl, fun t => Eqv.refl _⟩
 | none => exact ⟨rfl, rfl, rfl, fun t => Eqv.refl _⟩
 | tup => exact ⟨rfl, rfl, rfl, fun t => Eqv.refl _⟩
 | yes hg ht hp hpp =>
  refine ⟨St.put_boxes .., St.put_alive .., put_len .., fun t => ?_⟩
  rw [put_getD]
  split
  ·rename_i e; have := Option.some.inj e.1; subst this; rw [hp]; exact eqv_true hpp
  ·exact Eqv.refl _
 | no hg ht hp hpp =>
  refine ⟨St.put_boxes .., St.put_alive .., put_len .., fun t => ?_⟩
  rw [put_getD]
  split
  ·rename_i e; have := Option.some.inj e.1; subst this; rw [hp]; exact eqv_false hpp
  ·exact Eqv.refl _
theorem xa_sat {C : Ctx} {ρv : Operand → AV} {o : Op} {K : AV → Option R} (h : xa C ρv o K = some r) : ∃ v, xa C ρv o some = some v ∧ K v = some r := by
 rw [xa_nat] at h; exact Option.bind_eq_some_iff.1 h
theorem built_sat {C : Ctx} {ρv : Operand → AV} {t : TypeId} {n : Nat} {parts : List (Nat × Operand)} {L : (u : Ty) → List (El u) → Option R} (h : built C ρv t n parts L = some r) : ∃ u l, L u l = some r := by
 rw [built_nat (S := (u : Ty) × List (El u)) C ρv t n parts (fun u l => some ⟨u, l⟩) L (fun q => L q.1 q.2) (fun _ _ => rfl)] at h
 obtain ⟨q, _, h⟩ := Option.bind_eq_some_iff.1 h
 exact ⟨q.1, q.2, h⟩
def quiet (C : Ctx) : Op → Bool
 | .alloc .. | .box .. | .store .. | .makeSlice .. | .makeMap .. | .lookup .. | .mapUpdate .. | .range .. | .next .. => false
 | .call { callee := .builtin .append, .. } => false
 | .call { callee := .builtin .copy, .. } => false
 | o => !isCallS C o
theorem quiet_callS {C : Ctx} {o : Op} (h : quiet C o = true) : isCallS C o = false := by
 unfold quiet at h
 split at h <;> first | (cases h; done) | simpa using h
def isBuild (C : Ctx) : Op → Bool
 | .buildSlice .. => true
 | .call { callee := .value f, .. } => mayTurn C f
 | _ => false
theorem callS_sat {C : Ctx} {s : St} {f : FuncId} {args : List AV} {K : AV → St → Option R} (h : callS C s f args K = some r) : ∃ v q, K v q = some r ∧ q.tmps = s.tmps ∧ ((C.S.find? (fun c => c.id == f)).isSome = false → q = s) := by
 unfold callS at h
 split at h
 ·rename_i c hc
  split at h
  ·obtain ⟨y, _, h⟩ := Option.bind_eq_some_iff.1 h
   exact ⟨_, _, h, rfl, fun hh => by rw [hc] at hh; cases hh⟩
  ·cases h
 ·split at h
  ·split at h
   ·split at h
    ·split at h
     ·obtain ⟨y, _, h⟩ := Option.bind_eq_some_iff.1 h
      exact ⟨_, s, h, rfl, fun _ => rfl⟩
     ·cases h
    ·cases h
   ·rw [callOf_nat] at h
    obtain ⟨y, _, h⟩ := Option.bind_eq_some_iff.1 h
    exact ⟨_, s, h, rfl, fun _ => rfl⟩
  ·cases h
theorem xm_sat {C : Ctx} {s : St} {o : Op} {K : AV → St → Option R} (h : xm C s o K = some r) : ∃ v q, K v q = some r ∧ q.tmps = s.tmps ∧ (isBuild C o = false → q = s) := by
 have other : ∀ o, xa C (ev s) o (fun v => K v s) = some r → ∃ v q, K v q = some r ∧ q.tmps = s.tmps ∧ (isBuild C o = false → q = s) := fun o h => by
  obtain ⟨v, _, h⟩ := xa_sat h
  exact ⟨v, s, h, rfl, fun _ => rfl⟩
 unfold xm at h
 split at h
 ·split at h
  ·split at h
   ·split at h
    ·obtain ⟨y, _, h⟩ := Option.bind_eq_some_iff.1 h
     exact ⟨_, s, h, rfl, fun _ => rfl⟩
    ·cases h
   ·split at h
    ·split at h
     ·split at h
      ·split at h
       ·exact ⟨_, s, h, rfl, fun _ => rfl⟩
       ·cases h
      ·cases h
     ·cases h
    ·cases h
   ·cases h
  ·exact other _ h
 ·rename_i f args tys
  split at h
  ·rename_i g caps hf
   obtain ⟨v, q, h1, h2, h3⟩ := callS_sat h
   refine ⟨v, q, h1, h2, fun hb => h3 ?_⟩
   have hb : mayTurn C f = false := hb
   unfold mayTurn at hb
   split at hb
   ·have hf : AV.fn _ [] = AV.fn g caps := hf
    simp only [AV.fn.injEq] at hf
    rw [← hf.1]; exact hb
   ·have : C.S = [] := by simpa using hb
    rw [this]; rfl
  ·cases h
 ·exact other _ h
theorem xs_sat {C : Ctx} {dr : Bool} {s : St} {o : Op} {K : AV → St → Option R} (h : xs C dr s o K = some r) : ∃ v q, K v q = some r ∧ q.tmps = s.tmps ∧ (quiet C o = true → (dr = false → isBuild C o = false) → q = s) := by
 unfold xs at h
 split at h
 ·split at h
  ·exact ⟨_, _, h, rfl, fun hh _ => by cases hh⟩
  ·cases h
 ·split at h
  ·exact ⟨_, _, h, rfl, fun hh _ => by cases hh⟩
  ·cases h
 ·unfold xload at h
  split at h
  ·rw [partOf_nat] at h
   obtain ⟨v, _, h⟩ := Option.bind_eq_some_iff.1 h
   exact ⟨v, s, h, rfl, fun _ _ => rfl⟩
  ·cases h
 ·split at h
  ·split at h
   ·split at h
    ·exact ⟨_, _, h, rfl, fun hh _ => by cases hh⟩
    ·cases h
   ·cases h
  ·split at h
   ·split at h
    ·split at h
     ·obtain ⟨y, _, h⟩ := Option.bind_eq_some_iff.1 h
      exact ⟨_, _, h, rfl, fun hh _ => by cases hh⟩
     ·cases h
    ·cases h
   ·cases h
  ·cases h
 ·obtain ⟨u, l, h⟩ := built_sat h
  split at h
  ·split at h
   ·exact ⟨_, s, h, rfl, fun _ _ => rfl⟩
   ·exact ⟨_, s, h, rfl, fun _ _ => rfl⟩
  ·rename_i hdr
   exact ⟨_, _, h, rfl, fun _ hh => by have := hh (by simpa using hdr); cases this⟩
 ·split at h
  ·split at h
   ·split at h
    ·split at h
     ·split at h
      ·split at h
       ·split at h
        ·split at h
         ·exact ⟨_, _, h, rfl, fun hh _ => by cases hh⟩
         ·cases h
        ·cases h
       ·cases h
      ·split at h
       ·exact ⟨_, _, h, rfl, fun hh _ => by cases hh⟩
       ·cases h
     ·cases h
    ·cases h
   ·cases h
  ·cases h
 ·split at h
  ·split at h
   ·split at h
    ·split at h
     ·split at h
      ·obtain ⟨z, _, h⟩ := Option.bind_eq_some_iff.1 h
       exact ⟨_, s, h, rfl, fun hh _ => by cases hh⟩
      ·obtain ⟨z, _, h⟩ := Option.bind_eq_some_iff.1 h
       exact ⟨_, _, h, rfl, fun hh _ => by cases hh⟩
      ·split at h
       ·obtain ⟨z, _, h⟩ := Option.bind_eq_some_iff.1 h
        exact ⟨_, _, h, rfl, fun hh _ => by cases hh⟩
       ·cases h
      ·cases h
     ·cases h
    ·cases h
   ·cases h
  ·cases h
 ·split at h
  ·split at h
   ·split at h
    ·exact ⟨_, _, h, rfl, fun hh _ => by cases hh⟩
    ·cases h
   ·cases h
  ·cases h
 ·split at h
  ·split at h
   ·split at h
    ·rw [keyIn_nat] at h
     obtain ⟨v, _, h⟩ := Option.bind_eq_some_iff.1 h
     exact ⟨_, _, h, rfl, fun hh _ => by cases hh⟩
    ·cases h
   ·cases h
  ·cases h
 ·split at h
  ·split at h
   ·split at h
    ·rw [keyAdd_nat] at h
     obtain ⟨v, _, h⟩ := Option.bind_eq_some_iff.1 h
     exact ⟨_, _, h, rfl, fun hh _ => by cases hh⟩
    ·cases h
   ·cases h
  ·cases h
 ·split at h
  ·split at h
   ·exact ⟨_, _, h, rfl, fun hh _ => by cases hh⟩
   ·cases h
  ·cases h
 ·split at h
  ·split at h
   ·split at h
    ·split at h
     ·exact ⟨_, _, h, rfl, fun hh _ => by cases hh⟩
     ·exact ⟨_, _, h, rfl, fun hh _ => by cases hh⟩
    ·cases h
   ·cases h
  ·cases h
 ·split at h
  ·split at h
   ·split at h
    ·split at h
     ·split at h
      ·split at h
       ·obtain ⟨y, _, h⟩ := Option.bind_eq_some_iff.1 h
        exact ⟨_, _, h, rfl, fun hh _ => by cases hh⟩
       ·cases h
      ·cases h
     ·split at h
      ·split at h
       ·split at h
        ·split at h
         ·exact ⟨_, _, h, rfl, fun hh _ => by cases hh⟩
         ·cases h
        ·cases h
       ·cases h
      ·cases h
    ·cases h
   ·cases h
  ·cases h
 ·split at h
  ·obtain ⟨v, _, h⟩ := xa_sat h
   exact ⟨v, s, h, rfl, fun _ _ => rfl⟩
  ·rename_i hdr
   obtain ⟨v, q, h1, h2, h3⟩ := xm_sat h
   refine ⟨v, q, h1, h2, fun hq hh => h3 (hh ?_)⟩
   cases hd : dr with
   | false => rfl
   | true => exact absurd ⟨hd, quiet_callS hq⟩ hdr
theorem xs_pair' {C : Ctx} {dr : Bool} {s s2 : St} {o : Op} {av : AV} (h : xs C dr s o pairK = some (av, s2)) : s2.tmps = s.tmps ∧ (quiet C o = true → (dr = false → isBuild C o = false) → s2 = s) := by
 obtain ⟨v, q, h1, h2, h3⟩ := xs_sat h
 have h1 := Option.some.inj h1
 simp only [Prod.mk.injEq] at h1
 obtain ⟨rfl, rfl⟩ := h1
 exact ⟨h2, h3⟩
theorem xs_pair {C : Ctx} {s s2 : St} {o : Op} {av : AV} (h : xs C true s o pairK = some (av, s2)) : s2.tmps = s.tmps ∧ (quiet C o = true → s2 = s) :=
 ⟨(xs_pair' h).1, fun hq => (xs_pair' h).2 hq (fun e => by cases e)⟩
variable {P : Program} {R : Type} {w0 : World} {σ0 : Nat → Nat → Prop} {r : R}
theorem ancs_pre : ∀ (l : List Oper) (acc : List (List Nat)) (x : Nat), x < acc.length → (ancs l acc).getD x [] = acc.getD x []
 | [], _, _, _ => rfl
 | o :: l, acc, x, h => by
  rw [ancs, ancs_pre l _ x (by simp; omega)]
  rw [List.getD_eq_getElem?_getD, List.getD_eq_getElem?_getD, List.getElem?_append_left h]
theorem ancs_get : ∀ (l : List Oper) (acc : List (List Nat)) (k : Nat) (o : Oper), l[k]? = some o → ∀ j ∈ (ancs l acc).getD (acc.length + k) [], ∃ e ∈ aft o, j = e.on ∨ j ∈ (ancs l acc).getD e.on []
 | [], _, _, _, h, _, _ => by simp at h
 | o' :: l, acc, 0, o, h, j, hj => by
  simp at h; subst h
  rw [ancs] at hj ⊢
  rw [ancs_pre l _ _ (by simp)] at hj
  rw [List.getD_eq_getElem?_getD, Nat.add_zero, List.getElem?_append_right (Nat.le_refl _), Nat.sub_self] at hj
  have hj : j ∈ ancOf acc o' := hj
  unfold ancOf at hj
  obtain ⟨e, he, hj⟩ := List.mem_flatMap.1 hj
  refine ⟨e, he, ?_⟩
  rcases List.mem_cons.1 hj with h | h
  ·exact .inl h
  ·right
   have hlt : e.on < acc.length := by
    rw [List.getD_eq_getElem?_getD] at h
    cases hx : acc[e.on]? with
    | none => rw [hx] at h; cases h
    | some _ => exact (List.getElem?_eq_some_iff.1 hx).1
   rw [ancs_pre l _ _ (by simp; omega), List.getD_eq_getElem?_getD, List.getElem?_append_left hlt, ← List.getD_eq_getElem?_getD]
   exact h
 | o' :: l, acc, k + 1, o, h, j, hj => by
  rw [ancs] at hj ⊢
  have := ancs_get l (acc ++ [ancOf acc o']) k o (by simpa using h) j (by
   rw [List.length_append, List.length_singleton]
   rw [show acc.length + 1 + k = acc.length + (k + 1) by omega]
   exact hj)
  exact this
theorem mskOf_mem (acc : List Nat) (j : Nat) : ∀ (l : List Edge) (m : Nat), (l.foldl (fun m e => (m ||| 2 ^ e.on) ||| acc.getD e.on 0) m).testBit j = true → m.testBit j = true ∨ ∃ e ∈ l, j = e.on ∨ (acc.getD e.on 0).testBit j = true
 | [], m, h => .inl h
 | e :: l, m, h => by
  rw [List.foldl_cons] at h
  rcases mskOf_mem acc j l _ h with h | ⟨x, hx, h⟩
  ·rw [Nat.testBit_or, Nat.testBit_or, Nat.testBit_two_pow, Bool.or_eq_true, Bool.or_eq_true, decide_eq_true_eq] at h
   rcases h with (h | h) | h
   ·exact .inl h
   ·exact .inr ⟨e, List.mem_cons_self .., .inl h.symm⟩
   ·exact .inr ⟨e, List.mem_cons_self .., .inr h⟩
  ·exact .inr ⟨x, List.mem_cons_of_mem _ hx, h⟩
theorem msks_mem : ∀ (l : List Oper) (M : List Nat) (L : List (List Nat)), M.length = L.length → (∀ x j, (M.getD x 0).testBit j = true → j ∈ L.getD x []) → ∀ x j, ((msks l M).getD x 0).testBit j = true → j ∈ (ancs l L).getD x []
 | [], M, L, hl, h, x, j, hj => h x j hj
 | o :: l, M, L, hl, h, x, j, hj => by
  refine msks_mem l (M ++ [mskOf M o]) (L ++ [ancOf L o]) (by simp [hl]) (fun x j hj => ?_) x j hj
  rw [List.getD_eq_getElem?_getD] at hj ⊢
  rcases Nat.lt_trichotomy x M.length with hx | hx | hx
  ·rw [List.getElem?_append_left hx, ← List.getD_eq_getElem?_getD] at hj
   rw [List.getElem?_append_left (by omega), ← List.getD_eq_getElem?_getD]
   exact h x j hj
  ·subst hx
   rw [List.getElem?_append_right (Nat.le_refl _), Nat.sub_self] at hj
   rw [hl, List.getElem?_append_right (Nat.le_refl _), Nat.sub_self]
   have hj : (mskOf M o).testBit j = true := hj
   show j ∈ ancOf L o
   rcases mskOf_mem M j (aft o) 0 hj with hz | ⟨e, he, hj⟩
   ·rw [Nat.zero_testBit] at hz; cases hz
   ·refine List.mem_flatMap.2 ⟨e, he, ?_⟩
    rcases hj with hj | hj
    ·rw [hj]; exact List.mem_cons_self ..
    ·exact List.mem_cons_of_mem _ (h _ _ hj)
  ·rw [List.getElem?_eq_none (by simp; omega)] at hj
   simp at hj
theorem msk_anc {l : List Oper} {i j : Nat} (h : ((msks l []).getD i 0).testBit j = true) : j ∈ (ancs l []).getD i [] :=
 msks_mem l [] [] rfl (fun x j hj => by simp at hj) i j h
structure Made (C : Ctx) (l : List Oper) (s s' : St) (idf : Nat → Nat) : Prop where
 len : s'.tmps.length = s.tmps.length
 alive : s'.alive = s.alive
 old : ∀ b, b < s.boxes.length → s'.boxes[b]? = s.boxes[b]?
 le : s.boxes.length ≤ s'.boxes.length
 new : ∀ (i : Nat) o e, l[i]? = some o → o.op = .alloc e → s.boxes.length ≤ idf i ∧ s'.boxes[idf i]? = some (C.ti e).zero
 all : ∀ b, s.boxes.length ≤ b → b < s'.boxes.length → ∃ (i : Nat) (o : Oper), l[i]? = some o ∧ isAlloc o.op = true ∧ idf i = b
 inj : ∀ (i j : Nat) o p, l[i]? = some o → l[j]? = some p → isAlloc o.op = true → isAlloc p.op = true → idf i = idf j → i = j
 dst : ∀ (i : Nat) o d, l[i]? = some o → isAlloc o.op = true → o.dst = some d → d < s.tmps.length → s'.tmps.getD d .junk = .ptr (idf i) 0
 keep : ∀ t, (∀ (i : Nat) o, l[i]? = some o → isAlloc o.op = true → o.dst ≠ some t) → s'.tmps.getD t .junk = s.tmps.getD t .junk
theorem preAlloc_other {C : Ctx} {o : Oper} (l : List Oper) (s : St) (h : isAlloc o.op = false) : preAlloc C (o :: l) s = preAlloc C l s := by
 rw [preAlloc]
 split
 ·rename_i e he; rw [he] at h; cases h
 ·rfl
theorem made_of (C : Ctx) : ∀ (l : List Oper) (s : St), (∀ (i j : Nat) o p d, l[i]? = some o → l[j]? = some p → o.dst = some d → p.dst = some d → i = j) → ∃ idf, Made C l s (preAlloc C l s) idf
 | [], s, _ => ⟨fun _ => 0, ⟨rfl, rfl, fun _ _ => rfl, Nat.le_refl _, fun i o e h => by simp at h, fun b h1 h2 => by simp only [preAlloc] at h2; omega, fun i j o p h => by simp at h, fun i o d h => by simp at h, fun _ _ => rfl⟩⟩
 | o :: l, s, hd => by
  have hd' : ∀ (i j : Nat) o' p d, l[i]? = some o' → l[j]? = some p → o'.dst = some d → p.dst = some d → i = j := fun i j o' p d h1 h2 h3 h4 => by
   have := hd (i + 1) (j + 1) o' p d (by simpa using h1) (by simpa using h2) h3 h4; omega
  cases ha : isAlloc o.op with
  | false =>
   obtain ⟨idf, m⟩ := made_of C l s hd'
   rw [preAlloc_other l s ha]
   refine ⟨fun i => idf (i - 1), ⟨m.len, m.alive, m.old, m.le, fun i o' e h1 h2 => ?_, fun b h1 h2 => ?_, fun i j o' p h1 h2 h3 h4 h5 => ?_, fun i o' d h1 h2 h3 h4 => ?_, fun t ht => m.keep t fun i o' h1 h2 => ht (i + 1) o' (by simpa using h1) h2⟩⟩
   ·cases i with
    | zero => simp at h1; subst h1; rw [h2] at ha; cases ha
    | succ i => exact m.new i o' e (by simpa using h1) h2
   ·obtain ⟨i, o', e1, e2, e3⟩ := m.all b h1 h2; exact ⟨i + 1, o', by simpa using e1, e2, e3⟩
   ·cases i with
    | zero => simp at h1; subst h1; rw [ha] at h3; cases h3
    | succ i =>
    cases j with
    | zero => simp at h2; subst h2; rw [ha] at h4; cases h4
    | succ j => rw [m.inj i j o' p (by simpa using h1) (by simpa using h2) h3 h4 h5]
   ·cases i with
    | zero => simp at h1; subst h1; rw [ha] at h2; cases h2
    | succ i => exact m.dst i o' d (by simpa using h1) h2 h3 h4
  | true =>
   obtain ⟨e0, he0⟩ : ∃ e, o.op = .alloc e := by cases hh : o.op <;> rw [hh] at ha <;> first | exact ⟨_, rfl⟩ | cases ha
   have hpre : preAlloc C (o :: l) s = preAlloc C l ({ s with boxes := s.boxes ++ [(C.ti e0).zero] }.put o.dst (.ptr s.boxes.length 0)) := by rw [preAlloc, he0]
   obtain ⟨idf, m⟩   := made_of C l ({ s with boxes := s.boxes ++ [(C.ti e0).zero] }.put o.dst (.ptr s.boxes.length 0)) hd'
   rw [hpre]
   have hbx : ({ s with boxes := s.boxes ++ [(C.ti e0).zero] }.put o.dst (.ptr s.boxes.length 0) : St).boxes = s.boxes ++ [(C.ti e0).zero] := St.put_boxes ..
   have hal : ({ s with boxes := s.boxes ++ [(C.ti e0).zero] }.put o.dst (.ptr s.boxes.length 0) : St).alive = s.alive := St.put_alive ..
   have hln : ({ s with boxes := s.boxes ++ [(C.ti e0).zero] }.put o.dst (.ptr s.boxes.length 0) : St).tmps.length = s.tmps.length := put_len ..
   have hgd : ∀ t, ({ s with boxes := s.boxes ++ [(C.ti e0).zero] }.put o.dst (.ptr s.boxes.length 0) : St).tmps.getD t .junk = if o.dst = some t ∧ t < s.tmps.length then .ptr s.boxes.length 0 else s.tmps.getD t .junk := fun t => put_getD ..
   obtain ⟨m1, m2, m3, m4, m5, m6, m7, m8, m9⟩ := m
   rw [hbx, List.length_append, List.length_singleton] at m3 m4 m5 m6
   rw [hal] at m2
   rw [hln] at m1 m8
   refine ⟨fun i => if i = 0 then s.boxes.length else idf (i - 1), ⟨m1, m2, fun b hb => ?_, by omega, fun i o' e h1 h2 => ?_, fun b h1 h2 => ?_, fun i j o' p h1 h2 h3 h4 h5 => ?_, fun i o' d h1 h2 h3 h4 => ?_, fun t ht => ?_⟩⟩
   ·rw [m3 b (by omega), List.getElem?_append_left hb]
   ·cases i with
    | zero =>
     simp at h1; subst h1
     rw [he0] at h2; cases h2
     refine ⟨Nat.le_refl _, ?_⟩
     show (preAlloc C l _).boxes[s.boxes.length]? = _
     rw [m3 _ (by omega)]; simp
    | succ i =>
     have := m5 i o' e (by simpa using h1) h2
     exact ⟨Nat.le_trans (Nat.le_succ _) this.1, this.2⟩
   ·by_cases hb : b = s.boxes.length
    ·exact ⟨0, o, rfl, ha, by rw [hb]; rfl⟩
    ·obtain ⟨i, o', e1, e2, e3⟩ := m6 b (by omega) h2; exact ⟨i + 1, o', by simpa using e1, e2, e3⟩
   ·cases i with
    | zero =>
     cases j with
     | zero => rfl
     | succ j =>
      obtain ⟨e', he'⟩ : ∃ e, p.op = .alloc e := by cases hh : p.op <;> rw [hh] at h4 <;> first | exact ⟨_, rfl⟩ | cases h4
      have := (m5 j p e' (by simpa using h2) he').1
      have h5 : s.boxes.length = idf j := h5
      omega
    | succ i =>
     cases j with
     | zero =>
      obtain ⟨e', he'⟩ : ∃ e, o'.op = .alloc e := by cases hh : o'.op <;> rw [hh] at h3 <;> first | exact ⟨_, rfl⟩ | cases h3
      have := (m5 i o' e' (by simpa using h1) he').1
      have h5 : idf i = s.boxes.length := h5
      omega
     | succ j => rw [m7 i j o' p (by simpa using h1) (by simpa using h2) h3 h4 h5]
   ·cases i with
    | zero =>
     simp at h1; subst h1
     show (preAlloc C l _).tmps.getD d .junk = .ptr s.boxes.length 0
     rw [m9 d fun k q hk hq hqd => by have := hd 0 (k + 1) o q d rfl (by simpa using hk) h3 hqd; omega, hgd, if_pos ⟨h3, h4⟩]
    | succ i => exact m8 i o' d (by simpa using h1) h2 h3 h4
   ·rw [m9 t fun k q hk hq => ht (k + 1) q (by simpa using hk) hq, hgd, if_neg fun hh => ht 0 o rfl ha hh.1]
variable {P : Program} {R : Type} {w0 : World} {σ0 : Nat → Nat → Prop} {r : R} {C : Ctx} {ops : Array Oper} {sI : St} {S : Nat → St} {idf : Nat → Nat}
structure DR (C : Ctx) (ops : Array Oper) (sI : St) (S : Nat → St) (idf : Nat → Nat) : Prop where
 stp : ∀ (j : Nat) o, ops[j]? = some o → Stp C ops o (S j) (S (j + 1))
 made : Made C ops.toList sI (S 0) idf
 op : ∀ (i : Nat) o, ops[i]? = some o → drawOp C o = true
 edge : ∀ (i : Nat) o, ops[i]? = some o → ∀ e ∈ aft o, Region.binds .any e = true ∧ e.on < i
 self : ∀ (i : Nat) o d, ops[i]? = some o → o.dst = some d → d ∉ o.looksAt ops
 look : ∀ (i j : Nat) o p d, ops[i]? = some o → ops[j]? = some p → j ≠ i → p.dst = some d → d ∈ o.looksAt ops → j ∈ (ancs ops.toList []).getD i [] ∨ (isAlloc p.op = false ∧ i ∈ (ancs ops.toList []).getD j [])
 uniq : ∀ (i j : Nat) o p d, ops[i]? = some o → ops[j]? = some p → o.dst = some d → p.dst = some d → i = j
 heap : ∀ (i j : Nat) o p, ops[i]? = some o → ops[j]? = some p → j ≠ i → isHeap C o.op = true → (isHeap C p.op = true ∨ (isStore C o.op = true ∧ isLoadB C ops p = true)) → if j < i then j ∈ (ancs ops.toList []).getD i [] else i ∈ (ancs ops.toList []).getD j []
 heapA : ∀ (i j : Nat) o p, ops[i]? = some o → ops[j]? = some p → isHeap C o.op = true → isAlloc p.op = true → j ∈ (ancs ops.toList []).getD i []
theorem DR.of (hd : drawOk C ops.toList = true) (hs : ∀ (j : Nat) o, ops.toList[j]? = some o → Stp C ops o (S j) (S (j + 1))) (h0 : S 0 = preAlloc C ops.toList sI) : ∃ idf, DR C ops sI S idf := by
 have hz : ∀ (i : Nat) o, ops[i]? = some o → (o, i) ∈ ops.toList.zipIdx := fun i o h => by
  rw [List.mem_iff_getElem?]
  exact ⟨i, by rw [List.getElem?_zipIdx, Array.getElem?_toList, h]; simp⟩
 unfold drawOk at hd
 rw [List.all_eq_true] at hd
 have h1 : ∀ (i : Nat) o, ops[i]? = some o → drawOp C o = true ∧ (match o.dst with | some d => !(o.looksAt ops.toList.toArray).contains d | none => true) = true ∧ ((aft o).all fun e => decide (e.on < i)) = true ∧ ∀ (j : Nat) p, ops[j]? = some p → j ≠ i → beside C ops.toList (msks ops.toList []) i j o p = true := fun i o h => by
  have := hd (o, i) (hz i o h)
  simp only [Bool.and_eq_true] at this
  obtain ⟨⟨⟨q1, q2⟩, q3⟩, q4⟩ := this
  refine ⟨q1, q2, q3, fun j p hj hne => ?_⟩
  rw [List.all_eq_true] at q4
  have := q4 (p, j) (hz j p hj)
  simpa [hne] using this
 have bes : ∀ (i j : Nat) o p, ops[i]? = some o → ops[j]? = some p → j ≠ i → ((∀ d, p.dst = some d → o.dst ≠ some d ∧ (d ∈ o.looksAt ops → j ∈ (ancs ops.toList []).getD i [] ∨ (isAlloc p.op = false ∧ i ∈ (ancs ops.toList []).getD j []))) ∧ (isHeap C o.op = true → (isHeap C p.op = true ∨ (isStore C o.op = true ∧ isLoadB C ops p = true)) → if j < i then j ∈ (ancs ops.toList []).getD i [] else i ∈ (ancs ops.toList []).getD j [])) ∧ (isHeap C o.op = true → isAlloc p.op = true → j ∈ (ancs ops.toList []).getD i []) := fun i j o p hi hj hne => by
  have := (h1 i o hi).2.2.2 j p hj hne
  unfold beside at this
  simp only [Bool.and_eq_true] at this
  obtain ⟨⟨q1, q2⟩, q3⟩ := this
  refine ⟨⟨fun d hd => ?_, fun ho hp => ?_⟩, fun ho hp => ?_⟩
  ·rw [hd] at q1
   simp only [Bool.and_eq_true, bne_iff_ne, ne_eq, Bool.or_eq_true, Bool.not_eq_true', Array.toArray_toList] at q1
   refine ⟨q1.1, fun hm => ?_⟩
   rcases q1.2 with (h | h) | h
   ·rw [List.contains_eq_mem] at h; simp [hm] at h
   ·exact .inl (msk_anc h)
   ·exact .inr ⟨h.1, msk_anc h.2⟩
  ·have hpb : (isHeap C p.op || (isStore C o.op && isLoadB C ops.toList.toArray p)) = true := by rcases hp with hp | hp <;> simp [hp]
   simp only [ho, hpb, Bool.and_true, Bool.not_true, Bool.false_or] at q2
   by_cases hji : j < i
   ·rw [if_pos hji] at q2 ⊢; exact msk_anc q2
   ·rw [if_neg hji] at q2 ⊢; exact msk_anc q2
  ·simp only [ho, hp, Bool.and_true, Bool.not_true, Bool.false_or] at q3; exact msk_anc q3
 have uniq : ∀ (i j : Nat) o p d, ops[i]? = some o → ops[j]? = some p → o.dst = some d → p.dst = some d → i = j := fun i j o p d hi hj ho hp => by
  by_cases h : j = i
  ·exact h.symm
  ·exact absurd ho ((bes i j o p hi hj h).1.1 d hp).1
 obtain ⟨idf, m⟩ := made_of C ops.toList sI (fun i j o p d hi hj => uniq i j o p d (by rw [← Array.getElem?_toList]; exact hi) (by rw [← Array.getElem?_toList]; exact hj))
 refine ⟨idf, ⟨fun j o h => hs j o (by rw [Array.getElem?_toList]; exact h), by rw [h0]; exact m, fun i o h => (h1 i o h).1, fun i o h e he => ?_, fun i o d h hd hm => ?_, fun i j o p d hi hj hne hp hm => ((bes i j o p hi hj hne).1.1 d hp).2 hm, uniq, fun i j o p hi hj hne => (bes i j o p hi hj hne).1.2, fun i j o p hi hj ho hp => ?_⟩⟩
 ·have := List.all_eq_true.1 (h1 i o h).2.2.1 e he
  exact ⟨(List.mem_filter.1 he).2, by simpa using this⟩
 ·have := (h1 i o h).2.1
  rw [hd] at this
  simp only [Array.toArray_toList, Bool.not_eq_true', List.contains_eq_mem] at this
  simp [hm] at this
 ·have hne : j ≠ i := fun e => by
   subst e
   rw [hi] at hj
   obtain rfl := Option.some.inj hj
   cases hh : o.op <;> rw [hh] at ho hp <;> first | (cases hp; done) | (cases ho; done)
  exact (bes i j o p hi hj hne).2 ho hp
theorem DR.anc (h : DR C ops sI S idf) (i : Nat) (o : Oper) (hi : ops[i]? = some o) (j : Nat) (hj : j ∈ (ancs ops.toList []).getD i []) : ∃ e ∈ aft o, j = e.on ∨ j ∈ (ancs ops.toList []).getD e.on [] := by
 have := ancs_get ops.toList [] i o (by rw [Array.getElem?_toList]; exact hi) j (by simpa using hj)
 exact this
theorem DR.anc_lt (h : DR C ops sI S idf) : ∀ (i : Nat) (o : Oper), ops[i]? = some o → ∀ j ∈ (ancs ops.toList []).getD i [], j < i := by
 intro i
 induction i using Nat.strongRecOn with
 | _ i ih =>
  intro o hi j hj
  obtain ⟨e, he, hje⟩ := h.anc i o hi j hj
  have hlt := (h.edge i o hi e he).2
  rcases hje with rfl | hje
  ·exact hlt
  ·have hs : e.on < ops.size := Nat.lt_trans hlt (Array.getElem?_eq_some_iff.1 hi).1
   exact Nat.lt_trans (ih e.on hlt _ (Array.getElem?_eq_getElem hs) j hje) hlt
def Closed (ops : Array Oper) (L : Array Bool) : Prop := ∀ (i : Nat) o, ops[i]? = some o → L.getD i false = true → ∀ e ∈ aft o, L.getD e.on false = true
theorem DR.listed (h : DR C ops sI S idf) {L : Array Bool} (hc : Closed ops L) : ∀ (i : Nat) (o : Oper), ops[i]? = some o → (∀ e ∈ aft o, L.getD e.on false = true) → ∀ j ∈ (ancs ops.toList []).getD i [], L.getD j false = true := by
 intro i
 induction i using Nat.strongRecOn with
 | _ i ih =>
  intro o hi hr j hj
  obtain ⟨e, he, hje⟩ := h.anc i o hi j hj
  have hlt := (h.edge i o hi e he).2
  have hl := hr e he
  rcases hje with rfl | hje
  ·exact hl
  ·have hs : e.on < ops.size := Nat.lt_trans hlt (Array.getElem?_eq_some_iff.1 hi).1
   have ho := Array.getElem?_eq_getElem hs
   exact ih e.on hlt _ ho (hc e.on _ ho hl) j hje
theorem quiet_of {o : Oper} (h1 : drawOp C o = true) (h2 : isHeap C o.op = false) (h3 : isAlloc o.op = false) : quiet C o.op = true := by
 unfold drawOp at h1
 cases ho : o.op with
 | alloc e => rw [ho] at h3; cases h3
 | box e x => rw [ho] at h1; cases h1
 | makeMap t n => rw [ho] at h1; cases h1
 | lookup t m x c => rw [ho] at h1; cases h1
 | mapUpdate t m x v => rw [ho] at h1; cases h1
 | range t x => rw [ho] at h1; cases h1
 | next x c => rw [ho] at h1; cases h1
 | store t a v => rw [ho] at h2; cases h2
 | makeSlice t n c => rw [ho] at h1; cases h1
 | call c =>
  rw [ho] at h2
  cases hc : c with
  | mk callee args tys =>
   rw [hc] at h2
   cases callee with
   | builtin b => cases b <;> first | rfl | cases h2
   | value f => cases f <;> first | rfl | (simp only [isHeap] at h2; simp only [quiet, h2]; rfl)
   | _ => rfl
 | _ => rfl
theorem DR.still (h : DR C ops sI S idf) {k : Nat} {o : Oper} (hk : ops[k]? = some o) (hh : isHeap C o.op = false) : (S (k + 1)).boxes = (S k).boxes ∧ (S (k + 1)).alive = (S k).alive := by
 have hs := h.stp k o hk
 generalize S (k + 1) = s1 at hs
 cases hs with
 | alloc ha => exact ⟨rfl, rfl⟩
 | exec ha hg hfl hx =>
  have := (xs_pair hx).2 (quiet_of (h.op k o hk) hh ha)
  subst this
  rw [St.put_boxes, St.put_alive]
  exact ⟨hg.same.1, hg.same.2.1⟩
 | skip ha hg =>
  rw [St.put_boxes, St.put_alive]
  exact ⟨hg.same.1, hg.same.2.1⟩
theorem DR.stills (h : DR C ops sI S idf) {k : Nat} : ∀ (m : Nat), k + m ≤ ops.size → (∀ x, k ≤ x → x < k + m → ∀ o, ops[x]? = some o → isHeap C o.op = false) → (S (k + m)).boxes = (S k).boxes ∧ (S (k + m)).alive = (S k).alive
 | 0, _, _ => ⟨rfl, rfl⟩
 | m + 1, hm, hx => by
  obtain ⟨h1, h2⟩ := h.stills m (by omega) (fun x a b => hx x a (by omega))
  have hs : k + m < ops.size := by omega
  obtain ⟨h3, h4⟩ := h.still (Array.getElem?_eq_getElem hs) (hx (k + m) (by omega) (by omega) _ (Array.getElem?_eq_getElem hs))
  rw [show k + (m + 1) = k + m + 1 by omega]
  exact ⟨h3.trans h1, h4.trans h2⟩
theorem isStore_heap {o : Op} (h : isStore C o = true) : isHeap C o = true := by
 unfold isStore at h
 split at h
 ·rfl
 ·rfl
 ·unfold isHeap
  split <;> first | rfl | exact h
theorem append_boxes {s s2 : St} {args : Array Operand} {tys : Array TypeId} {av : AV} (h : xs C true s (.call { callee := .builtin .append, args := args, argTypes := tys }) pairK = some (av, s2)) : s2.boxes = s.boxes := by
 have fin : ∀ {v : AV} {q : St}, pairK v q = some (av, s2) → q.boxes = s.boxes → s2.boxes = s.boxes := fun h1 h2 => by
  have h1 := Option.some.inj h1
  simp only [Prod.mk.injEq] at h1
  rw [← h1.2]; exact h2
 simp only [xs] at h
 split at h
 ·split at h
  ·split at h
   ·split at h
    ·split at h
     ·obtain ⟨z, _, h⟩ := Option.bind_eq_some_iff.1 h
      exact fin h rfl
     ·obtain ⟨z, _, h⟩ := Option.bind_eq_some_iff.1 h
      exact fin h rfl
     ·split at h
      ·obtain ⟨z, _, h⟩ := Option.bind_eq_some_iff.1 h
       exact fin h rfl
      ·cases h
     ·cases h
    ·cases h
   ·cases h
  ·cases h
 ·cases h
theorem DR.stillB (h : DR C ops sI S idf) {k : Nat} {o : Oper} (hk : ops[k]? = some o) (hh : isStore C o.op = false) : (S (k + 1)).boxes = (S k).boxes := by
 cases hhp : isHeap C o.op with
 | false => exact (h.still hk hhp).1
 | true =>
  have hs := h.stp k o hk
  generalize S (k + 1) = s1 at hs
  cases hs with
  | alloc ha => rfl
  | skip ha hg => rw [St.put_boxes]; exact hg.same.1
  | exec ha hg hfl hx =>
   rw [St.put_boxes]
   refine Eq.trans ?_ hg.same.1
   cases ho : o.op with
   | store t a x => rw [ho] at hh; cases hh
   | call c =>
    rw [ho] at hh hhp hx
    cases c with
    | mk callee args tys =>
     cases callee with
     | builtin b =>
      cases b <;> first | (cases hh; done) | (cases hhp; done) | exact append_boxes hx
     | value f => cases f <;> first | (cases hhp; done) | (simp only [isHeap] at hhp; simp only [isStore] at hh; rw [hhp] at hh; cases hh)
     | _ => cases hhp
   | _ => rw [ho] at hhp; cases hhp
theorem DR.stillsB (h : DR C ops sI S idf) {k : Nat} : ∀ (m : Nat), k + m ≤ ops.size → (∀ x, k ≤ x → x < k + m → ∀ o, ops[x]? = some o → isStore C o.op = false) → (S (k + m)).boxes = (S k).boxes
 | 0, _, _ => rfl
 | m + 1, hm, hx => by
  have h1 := h.stillsB m (by omega) (fun x a b => hx x a (by omega))
  have hs : k + m < ops.size := by omega
  have h3 := h.stillB (Array.getElem?_eq_getElem hs) (hx (k + m) (by omega) (by omega) _ (Array.getElem?_eq_getElem hs))
  rw [show k + (m + 1) = k + m + 1 by omega]
  exact h3.trans h1
theorem DR.oldB1 (h : DR C ops sI S idf) (hf : storesFresh C ops = true) {k : Nat} {o : Oper} (hk : ops[k]? = some o) : (S (k + 1)).boxes.length = (S k).boxes.length ∧ ∀ b, b < nOld ops (S k) → (S (k + 1)).boxes[b]? = (S k).boxes[b]? := by
 cases hst : isStore C o.op with
 | false => rw [h.stillB hk hst]; exact ⟨rfl, fun _ _ => rfl⟩
 | true =>
  have hs := h.stp k o hk
  generalize S (k + 1) = s1 at hs
  cases hs with
  | alloc ha => exact ⟨rfl, fun _ _ => rfl⟩
  | skip ha hg => rw [St.put_boxes, hg.same.1]; exact ⟨rfl, fun _ _ => rfl⟩
  | exec ha hg hfl hx =>
   rename_i s' s2 av
   have hb := hg.same.1
   have hn : nOld ops s' = nOld ops (S k) := by unfold nOld; rw [hb]
   have hop : ∃ t x y, o.op = .store t x y := by
    have hm : o ∈ ops.toList := by rw [List.mem_iff_getElem?]; exact ⟨k, by rw [Array.getElem?_toList]; exact hk⟩
    have := List.all_eq_true.1 hf o hm
    rw [hst, Bool.not_true, Bool.false_or] at this
    split at this
    ·rename_i t d y e; exact ⟨t, _, y, e⟩
    ·cases this
   obtain ⟨t, x, y, ho⟩ := hop
   unfold badOp at hfl
   rw [ho] at hfl hx
   have hfl : (storesFresh C ops && !(match ev s' x with | .ptr b _ => decide (nOld ops s' ≤ b) | _ => false)) = false := hfl
   rw [hf, Bool.true_and, Bool.not_eq_false'] at hfl
   simp only [xs] at hx
   rw [St.put_boxes, ← hb]
   split at hfl
   ·rename_i b' i' e
    have hle := of_decide_eq_true hfl
    rw [e] at hx
    simp only at hx
    split at hx
    ·split at hx
     ·unfold pairK at hx
      obtain ⟨-, rfl⟩ := Prod.ext_iff.1 (Option.some.inj hx)
      refine ⟨by simp, fun b hlt => ?_⟩
      rw [← hn] at hlt
      simp only
      rw [List.getElem?_set_ne (by omega)]
     ·cases hx
    ·cases hx
   ·cases hfl
theorem DR.oldB (h : DR C ops sI S idf) (hf : storesFresh C ops = true) : ∀ k, k ≤ ops.size → (S k).boxes.length = (S 0).boxes.length ∧ ∀ b, b < nOld ops (S 0) → (S k).boxes[b]? = (S 0).boxes[b]?
 | 0, _ => ⟨rfl, fun _ _ => rfl⟩
 | k + 1, hk => by
  obtain ⟨h1, h2⟩ := h.oldB hf k (by omega)
  have hs : k < ops.size := by omega
  obtain ⟨h3, h4⟩ := h.oldB1 hf (Array.getElem?_eq_getElem hs)
  have hn : nOld ops (S k) = nOld ops (S 0) := by unfold nOld; rw [h1]
  exact ⟨h3.trans h1, fun b hb => (h4 b (by rw [hn]; exact hb)).trans (h2 b hb)⟩
theorem Grd.ptr {o : Oper} {s s' : St} {g : Bool} (h : Grd ops o s s' g) (d b i : Nat) : s'.tmps.getD d .junk = .ptr b i ↔ s.tmps.getD d .junk = .ptr b i := by
 cases h with
 | free => exact Iff.rfl
 | none => exact Iff.rfl
 | tup => exact Iff.rfl
 | yes hg ht hp hpp =>
  rw [put_getD]
  split
  ·rename_i e
   obtain rfl := Option.some.inj e.1
   rw [hp]
   exact ⟨fun h => (by cases h), fun h => (by cases h)⟩
  ·exact Iff.rfl
 | no hg ht hp hpp =>
  rw [put_getD]
  split
  ·rename_i e
   obtain rfl := Option.some.inj e.1
   rw [hp]
   exact ⟨fun h => (by cases h), fun h => (by cases h)⟩
  ·exact Iff.rfl
theorem DR.ptr1 (h : DR C ops sI S idf) {k : Nat} {o : Oper} (hk : ops[k]? = some o) {d b i : Nat} (hd : o.dst ≠ some d) : (S (k + 1)).tmps.getD d .junk = .ptr b i ↔ (S k).tmps.getD d .junk = .ptr b i := by
 have hs := h.stp k o hk
 generalize S (k + 1) = s1 at hs
 cases hs with
 | alloc ha => exact Iff.rfl
 | exec ha hg hfl hx =>
  rw [put_getD, if_neg (fun hh => hd hh.1), (xs_pair hx).1]
  exact hg.ptr d b i
 | skip ha hg =>
  rw [put_getD, if_neg (fun hh => hd hh.1)]
  exact hg.ptr d b i
theorem DR.ptrs (h : DR C ops sI S idf) {d b i : Nat} (hd : ∀ (x : Nat) o, ops[x]? = some o → o.dst ≠ some d) : ∀ (k : Nat), k ≤ ops.size → ((S k).tmps.getD d .junk = .ptr b i ↔ (S 0).tmps.getD d .junk = .ptr b i)
 | 0, _ => Iff.rfl
 | k + 1, hk => by
  have hs : k < ops.size := by omega
  have hx := Array.getElem?_eq_getElem hs
  exact (h.ptr1 hx (hd k _ hx)).trans (h.ptrs hd k (by omega))
theorem DR.offB (h : DR C ops sI S idf) {x : Nat} {p : Oper} (hx : ops[x]? = some p) {t : TypeId} {d : Tmp} {y : Operand} (hp : p.op = .store t (.tmp d) y) {b b' i' : Nat} (hv : (S x).tmps.getD d .junk = .ptr b' i') (hne : b' ≠ b) : (S (x + 1)).boxes[b]? = (S x).boxes[b]? := by
 have hs := h.stp x p hx
 generalize S (x + 1) = s1 at hs
 cases hs with
 | alloc ha => rfl
 | skip ha hg => rw [St.put_boxes, hg.same.1]
 | exec ha hg hfl hx =>
  rename_i s' s2 av
  rw [St.put_boxes, ← hg.same.1]
  have e : ev s' (.tmp d) = .ptr b' i' := (hg.ptr d b' i').2 hv
  rw [hp] at hx
  simp only [xs] at hx
  rw [e] at hx
  simp only at hx
  split at hx
  ·split at hx
   ·unfold pairK at hx
    obtain ⟨-, rfl⟩ := Prod.ext_iff.1 (Option.some.inj hx)
    simp only
    rw [List.getElem?_set_ne hne]
   ·cases hx
  ·cases hx
theorem DR.eqv1 (h : DR C ops sI S idf) {k : Nat} {o : Oper} (hk : ops[k]? = some o) {t : Nat} (hd : isAlloc o.op = false → o.dst ≠ some t) : Eqv ((S k).tmps.getD t .junk) ((S (k + 1)).tmps.getD t .junk) := by
 have hs := h.stp k o hk
 generalize S (k + 1) = s1 at hs
 cases hs with
 | alloc ha => exact Eqv.refl _
 | exec ha hg hfl hx =>
  rename_i s' s2 av
  rw [put_getD, if_neg (fun hh => hd ha hh.1), (xs_pair hx).1]
  exact hg.same.2.2.2 t
 | skip ha hg =>
  rw [put_getD, if_neg (fun hh => hd ha hh.1)]
  exact hg.same.2.2.2 t
theorem DR.eqv (h : DR C ops sI S idf) {k t : Nat} : ∀ (m : Nat), k + m ≤ ops.size → (∀ x, k ≤ x → x < k + m → ∀ o, ops[x]? = some o → isAlloc o.op = false → o.dst ≠ some t) → Eqv ((S k).tmps.getD t .junk) ((S (k + m)).tmps.getD t .junk)
 | 0, _, _ => Eqv.refl _
 | m + 1, hm, hx => by
  have h1 := h.eqv m (by omega) (fun x a b => hx x a (by omega))
  have hs : k + m < ops.size := by omega
  exact h1.trans (h.eqv1 (Array.getElem?_eq_getElem hs) (hx (k + m) (by omega) (by omega) _ (Array.getElem?_eq_getElem hs)))
theorem DR.len (h : DR C ops sI S idf) : ∀ (k : Nat), k ≤ ops.size → (S k).tmps.length = sI.tmps.length
 | 0, _ => h.made.len
 | k + 1, hk => by
  have hs : k < ops.size := by omega
  have ih := h.len k (by omega)
  have hst := h.stp k _ (Array.getElem?_eq_getElem hs)
  generalize S (k + 1) = s1 at hst
  cases hst with
  | alloc ha => exact ih
  | exec ha hg hfl hx => rw [put_len, (xs_pair hx).1, hg.same.2.2.1, ih]
  | skip ha hg => rw [put_len, hg.same.2.2.1, ih]
open Classical in
structure Inv (P : Program) (C : Ctx) (ops : Array Oper) (sI : St) (S : Nat → St) (idf : Nat → Nat) (w0 : World) (σ0 : Nat → Nat → Prop) (ρ1 : Env) (σ1 : Nat → Nat → Prop) (w1 : World) (aa : Act) (L : Array Bool) (a : Act) (w : World) (ρ : Env) (σ : Nat → Nat → Prop) (κ : Nat) : Prop where
 size : L.size = ops.size
 closed : Closed ops L
 kle : κ ≤ ops.size
 kap : ∀ (i : Nat) o, ops[i]? = some o → isHeap C o.op = true → (L.getD i false = true ↔ i < κ)
 tsz : a.tmps.size = sI.tmps.length
 tmp : ∀ t, (∀ (i : Nat) o, ops[i]? = some o → o.dst = some t → L.getD i false = true) → RA ρ w0.heap.size σ w ((S ops.size).tmps.getD t .junk) (a.tmps.getD t undef)
 tmp0 : ∀ t, (∀ (i : Nat) o, ops[i]? = some o → o.dst = some t → L.getD i false = false) → RA ρ w0.heap.size σ w (sI.tmps.getD t .junk) (a.tmps.getD t undef)
 heap : HR P w0 σ0 ρ σ (fun b => if ∃ (i : Nat) (o : Oper), ops[i]? = some o ∧ isAlloc o.op = true ∧ idf i = b ∧ L.getD i false = false then none else (S κ).boxes[b]?) (S κ).alive w
 defers : a.defers = aa.defers
 mono : Mono ρ1 σ1 w1 ρ σ w
open Classical in
theorem Inv.ready {L : Array Bool} {a : Act} {w : World} {ρ ρ1 : Env} {σ σ1 : Nat → Nat → Prop} {w1 : World} {aa : Act} {κ : Nat} (hI : Inv P C ops sI S idf w0 σ0 ρ1 σ1 w1 aa L a w ρ σ κ) (h : DR C ops sI S idf) (hr : Region.ready .any ops L = []) :
  ∀ (i : Nat), i < ops.size → L.getD i false = true := by
 intro i
 induction i using Nat.strongRecOn with
 | _ i ih =>
  intro hi
  cases hL : L.getD i false with
  | true => rfl
  | false =>
   exfalso
   have hm : i ∈ Region.ready .any ops L := by
    unfold Region.ready
    rw [List.mem_filter]
    refine ⟨List.mem_range.2 hi, ?_⟩
    have hLt : L.getD i true = false := by
     have hs : i < L.size := by rw [hI.size]; exact hi
     simp only [Array.getD, hs, dif_pos] at hL ⊢
     exact hL
    rw [hLt, Array.getElem?_eq_getElem hi]
    simp only [Bool.not_false, Bool.true_and, Option.map_some, Option.getD_some]
    rw [← Array.all_toList, List.all_eq_true]
    intro e he
    cases hb : Region.binds .any e with
    | false => simp
    | true =>
     have := h.edge i _ (Array.getElem?_eq_getElem hi) e (List.mem_filter.2 ⟨he, hb⟩)
     rw [ih e.on this.2 (Nat.lt_trans this.2 hi)]
     simp
   rw [hr] at hm; cases hm
theorem not_box {L : Array Bool} {i : Nat} {o : Oper} (hi : ops[i]? = some o) (hl : L.getD i false = false) (hs : L.size = ops.size) (j : Nat) : (L.setIfInBounds i true).getD j false = (if j = i then true else L.getD j false) := by
 have hlt : i < L.size := by rw [hs]; exact (Array.getElem?_eq_some_iff.1 hi).1
 rw [Array.getD_eq_getD_getElem?, Array.getD_eq_getD_getElem?, Array.getElem?_setIfInBounds]
 by_cases h : i = j
 ·subst h; rw [if_pos rfl, if_pos rfl, if_pos hlt]; rfl
 ·rw [if_neg h, if_neg (fun e => h e.symm)]
theorem RA.of_eqv {ρ : Env} {base : Nat} {σ : Nat → Nat → Prop} {w : World} {x y : AV} {v : Value} (h : Eqv x y) (g : RA ρ base σ w y v) : RA ρ base σ w x v := (h ρ base σ w v).2 g
end Go.Proofs.YtkaihbkfobiejaaGreatDoor.Xe
