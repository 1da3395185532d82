/- The executor: what an operation answers does not hang on what is done with it. -/
import Derived.Test.YtnhogpbibcgpkaaXo
namespace Go.Proofs.Ytnhogpbibcgpkaa.Xe
open Go Go.RowKit
set_option linter.unusedVariables false
set_option linter.unusedSimpArgs false
variable {R : Type}
theorem obind {α β γ : Type} (x : Option α) (f : α → Option β) (g : β → Option γ) : (x.bind f).bind g = x.bind fun a => (f a).bind g := by cases x <;> rfl
theorem bop_nat (op : BinOp) (k : IntKind) (x y : Int) (K : AV → Option R) : bop op k x y K = (bop op k x y some).bind K := by
  cases op <;> simp only [bop] <;> first | rfl | (split <;> rfl)
theorem shop_nat (op : BinOp) (k : IntKind) (x y : Int) (K : AV → Option R) : shop op k x y K = (shop op k x y some).bind K := by
  cases op <;> simp only [shop] <;> first | rfl | (split <;> rfl)
theorem sop_nat (op : BinOp) (x y : ByteArray) (K : AV → Option R) : sop op x y K = (sop op x y some).bind K := by
  cases op <;> simp only [sop] <;> first | rfl | (cases scat x y <;> rfl)
theorem sameK_nat (q : Option (Σ' p : Prop, Decidable p)) (op : BinOp) (K : AV → Option R) : sameK q op K = (sameK q op some).bind K := by
  unfold sameK; split <;> rfl
theorem asInt_nat {S : Type} (v : AV) (L : Int → Option S) (L' : Int → Option R) (K : S → Option R) (h : ∀ n, L' n = (L n).bind K) : asInt v L' = (asInt v L).bind K := by
  cases v <;> simp only [asInt] <;> first | rfl | exact h _
theorem orInt_nat {S : Type} (d : Int) (v : Option AV) (L : Int → Option S) (L' : Int → Option R) (K : S → Option R) (h : ∀ n, L' n = (L n).bind K) : orInt d v L' = (orInt d v L).bind K := by
  cases v <;> simp only [orInt]
  · exact h _
  · exact asInt_nat _ _ _ _ h
theorem pickAt_nat {S : Type} (i : Int) (L : Nat → Option S) (L' : Nat → Option R) (K : S → Option R) (h : ∀ n, L' n = (L n).bind K) : ∀ n j, pickAt i L' n j = (pickAt i L n j).bind K
  | 0, j => rfl
  | n + 1, j => by
    simp only [pickAt]
    split
    · exact h _
    · exact pickAt_nat i L L' K h n (j + 1)
theorem partOf_nat (I : TI) (cs : List AV) (off : Nat) (K : AV → Option R) : partOf I cs off K = (partOf I cs off some).bind K := by
  unfold partOf
  dsimp only
  split
  · rfl
  · split <;> rfl
  · split <;> rfl
  · split
    · split <;> rfl
    · rfl
theorem callOf_nat (C : Ctx) (f : FuncId) (args : List AV) (K : AV → Option R) : callOf C f args K = (callOf C f args some).bind K := by
  unfold callOf
  split
  · split
    · rw [obind]; rfl
    · rfl
  · rfl
theorem built_nat {S : Type} (C : Ctx) (ρ : Operand → AV) (t : TypeId) (n : Nat) (parts : List (Nat × Operand)) (L : (t : Ty) → List (El t) → Option S) (L' : (t : Ty) → List (El t) → Option R) (K : S → Option R) (h : ∀ t l, L' t l = (L t l).bind K) :
    built C ρ t n parts L' = (built C ρ t n parts L).bind K := by
  unfold built
  split
  · dsimp only
    split
    · split
      · split
        · split
          · exact h _ _
          · rfl
        · rfl
      · rfl
    · rfl
  · rfl
theorem xa_nat (C : Ctx) (ρ : Operand → AV) (o : Op) (K : AV → Option R) : xa C ρ o K = (xa C ρ o some).bind K := by
  cases o with
  | move x => rfl
  | assign x => rfl
  | pick c a b => simp only [xa]; split <;> first | rfl | (split <;> rfl)
  | build t parts =>
    simp only [xa]
    split
    · split
      · split <;> rfl
      · rfl
    · split
      · split <;> rfl
      · rfl
    · rfl
  | buildSlice t n parts => simp only [xa]; exact built_nat C ρ t n _ _ _ K (fun _ _ => by split <;> rfl)
  | nilCheck x => simp only [xa]; split <;> rfl
  | binOp op xt x y yt =>
    simp only [xa]
    split
    · split
      · exact shop_nat ..
      · exact shop_nat ..
      · split
        · exact bop_nat ..
        · rfl
    · exact sop_nat ..
    · split <;> rfl
    · split
      · split
        · exact sameK_nat ..
        · rfl
      · split
        · exact sameK_nat ..
        · rfl
      · rfl
    · rfl
  | unOp op t x => simp only [xa]; split <;> rfl
  | convert s d x =>
    simp only [xa]
    split
    · rfl
    · split
      · rfl
      · rfl
      · split
        · split <;> rfl
        · rfl
      · rfl
  | slice t x lo hi mx =>
    cases mx with
    | some m => simp [xa]
    | none =>
      simp only [xa]
      split
      · exact orInt_nat _ _ _ _ K fun l => orInt_nat _ _ _ _ K fun h => by rw [obind]; rfl
      · split
        · exact orInt_nat _ _ _ _ K fun l => orInt_nat _ _ _ _ K fun h => by rw [obind]; rfl
        · rfl
      · split
        · exact orInt_nat _ _ _ _ K fun l => orInt_nat _ _ _ _ K fun h => by split <;> rfl
        · rfl
      · split
        · split <;> rfl
        · rfl
      · rfl
  | fieldAddr t x f =>
    simp only [xa]
    split
    · split
      · split
        · rfl
        · split <;> rfl
      · rfl
    · rfl
  | field t x f =>
    simp only [xa]
    split
    · split
      · exact partOf_nat ..
      · rfl
    · rfl
  | indexAddr t x i =>
    simp only [xa]
    split
    · split
      · rfl
      · exact asInt_nat _ _ _ K fun n => by refine pickAt_nat _ _ _ K (fun m => ?_) _ _; rfl
    · split
      · rfl
      · exact asInt_nat _ _ _ K fun n => by refine pickAt_nat _ _ _ K (fun m => ?_) _ _; rfl
    · split
      · exact asInt_nat _ _ _ K fun n => by rw [obind]; rfl
      · rfl
    · split
      · exact asInt_nat _ _ _ K fun n => by split <;> rfl
      · rfl
    · rfl
  | index t x i =>
    simp only [xa]
    split
    · exact asInt_nat _ _ _ K fun n => pickAt_nat _ _ _ K (fun m => partOf_nat ..) _ _
    · exact asInt_nat _ _ _ K fun n => by rw [obind]; rfl
    · rfl
  | extract x i =>
    simp only [xa]
    split
    · split <;> rfl
    · rfl
  | makeFunc fn first caps =>
    cases fn with
    | func f => simp only [xa]; split <;> rfl
    | _ => simp [xa]
  | call c =>
    simp only [xa]
    split
    · split
      · exact callOf_nat ..
      · rfl
    · split
      · split <;> rfl
      · rfl
    · split
      · split
        · split <;> rfl
        · rfl
      · rfl
    · split
      · split
        · split <;> rfl
        · rfl
      · rfl
    · rfl
  | _ => simp [xa]
theorem keyIn_nat (u : Ty) (l : List (El u)) (v : AV) (K : AV → Option R) : keyIn u l v K = (keyIn u l v some).bind K := by
  unfold keyIn
  split
  · split <;> rfl
  · split <;> rfl
  · rfl
theorem keyAdd_nat (u : Ty) (l : List (El u)) (v : AV) (K : List (El u) → Option R) : keyAdd u l v K = (keyAdd u l v some).bind K := by
  cases u with
  | int k => cases k <;> cases v <;> first | rfl | (rename_i k' z; cases k' <;> first | rfl | (simp only [keyAdd]; split <;> rfl))
  | str => cases v <;> first | rfl | (simp only [keyAdd]; split <;> rfl)
  | _ => rfl
def pairK (v : AV) (s : St) : Option (AV × St) := some (v, s)
theorem callS_nat (C : Ctx) (s : St) (f : FuncId) (args : List AV) (K : AV → St → Option R) : callS C s f args K = (callS C s f args pairK).bind fun q => K q.1 q.2 := by
  unfold callS
  split
  · split
    · rw [obind]; rfl
    · rfl
  · split
    · split
      · split
        · split
          · rw [obind]; rfl
          · rfl
        · rfl
      · rw [callOf_nat, callOf_nat _ _ _ (fun v => pairK v s), obind]; rfl
    · rfl
theorem xm_nat (C : Ctx) (s : St) (o : Op) (K : AV → St → Option R) : xm C s o K = (xm C s o pairK).bind fun q => K q.1 q.2 := by
  have other : ∀ o, xa C (ev s) o (fun v => K v s) = (xa C (ev s) o fun v => pairK v s).bind fun q => K q.1 q.2 := fun o => by
    rw [xa_nat, xa_nat _ _ _ (fun v => pairK v s), obind]; rfl
  unfold xm
  split
  · split
    · split
      · split
        · rw [obind]; rfl
        · rfl
      · split
        · split
          · split
            · split <;> rfl
            · rfl
          · rfl
        · rfl
      · rfl
    · exact other _
  · split
    · exact callS_nat ..
    · rfl
  · exact other _
theorem xs_nat (C : Ctx) (dr : Bool) (s : St) (o : Op) (K : AV → St → Option R) : xs C dr s o K = (xs C dr s o pairK).bind fun q => K q.1 q.2 := by
  unfold xs
  split
  · split <;> rfl
  · split <;> rfl
  · unfold xload
    split
    · rw [partOf_nat, partOf_nat _ _ _ (fun v => pairK v s), obind]; rfl
    · rfl
  · split
    · split
      · split <;> rfl
      · rfl
    · split
      · split
        · split
          · rw [obind]; rfl
          · rfl
        · rfl
      · rfl
    · rfl
  · refine built_nat C _ _ _ _ _ _ _ (fun t l => ?_)
    split
    · split <;> rfl
    · rfl
  · split
    · split
      · split
        · split
          · split
            · split
              · split
                · split <;> rfl
                · rfl
              · rfl
            · split <;> rfl
          · rfl
        · rfl
      · rfl
    · rfl
  · split
    · split
      · split
        · split
          · split
            · rw [obind]; rfl
            · rw [obind]; rfl
            · split
              · rw [obind]; rfl
              · rfl
            · rfl
          · rfl
        · rfl
      · rfl
    · rfl
  · split
    · split
      · split <;> rfl
      · rfl
    · rfl
  · split
    · split
      · split
        · rw [keyIn_nat, keyIn_nat _ _ _ (fun v => pairK v s), obind]; rfl
        · rfl
      · rfl
    · rfl
  · split
    · split
      · split
        · rw [keyAdd_nat, keyAdd_nat _ _ _ (fun l' => pairK _ _), obind]; rfl
        · rfl
      · rfl
    · rfl
  · split
    · split <;> rfl
    · rfl
  · split
    · split
      · split
        · split <;> rfl
        · rfl
      · rfl
    · rfl
  · split
    · split
      · split
        · split
          · split
            · split
              · rw [obind]; rfl
              · rfl
            · rfl
          · split
            · split
              · split
                · split <;> rfl
                · rfl
              · rfl
            · rfl
        · rfl
      · rfl
    · rfl
  · split
    · rw [xa_nat, xa_nat _ _ _ (fun v => pairK v s), obind]; rfl
    · exact xm_nat ..
end Go.Proofs.Ytnhogpbibcgpkaa.Xe
