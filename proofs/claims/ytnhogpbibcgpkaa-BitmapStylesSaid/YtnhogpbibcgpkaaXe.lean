/- The executor: operations that read their operands alone. -/
import Derived.Test.YtnhogpbibcgpkaaXd
import Derived.Laws.Slices
namespace Go.Proofs.Ytnhogpbibcgpkaa.Xe
open Go Go.RowKit
set_option linter.unusedVariables false
set_option linter.unusedSimpArgs false
variable {P : Program} {R : Type} {ρ : Env} {base : Nat} {σ : Nat → Nat → Prop} {w : World} {r : R} {K : AV → Option R}
theorem beq_bytes (x y : ByteArray) : (x.toList == y.toList) = decide (x = y) := by
  rw [ByteArray.toList_eq, ByteArray.toList_eq]
  obtain ⟨⟨x⟩⟩ := x
  obtain ⟨⟨y⟩⟩ := y
  exact Bool.eq_iff_iff.2 (by simp)
/-- A value that an operation yields, the world staying. -/
def Yields (P : Program) (ρ : Env) (base : Nat) (σ : Nat → Nat → Prop) (w : World) (K : AV → Option R) (r : R) (s : Sem Value) : Prop :=
  ∃ av v, s.run P w = .ok v w ∧ K av = some r ∧ RA ρ base σ w av v
theorem yields_pure {av : AV} {v : Value} (h : K av = some r) (g : RA ρ base σ w av v) : Yields P ρ base σ w K r (pure v) := ⟨av, v, rfl, h, g⟩
theorem yields_of {s : Sem Value} {av : AV} {v : Value} (e : s.run P w = .ok v w) (h : K av = some r) (g : RA ρ base σ w av v) : Yields P ρ base σ w K r s := ⟨av, v, e, h, g⟩
theorem bop_sound {op : BinOp} {k : IntKind} {x y : Int} {t : TypeId} (h : bop op k x y K = some r) (hs : op ≠ .shl) (hs' : op ≠ .shr) : Yields P ρ base σ w K r (binOp op t (.int k x) (.int k y)) := by
  cases op <;> simp only [bop] at h <;> try (cases h; done)
  case add => rw [binOp_add]; exact yields_pure h rfl
  case sub => rw [binOp_sub]; exact yields_pure h rfl
  case mul => rw [binOp_mul]; exact yields_pure h rfl
  case quo =>
    split at h
    · cases h
    · rename_i hy; rw [binOp_quo]; simp only [Op.intDiv, if_neg hy]; exact yields_pure h rfl
  case rem =>
    split at h
    · cases h
    · rename_i hy; rw [binOp_rem]; simp only [Op.intDiv, if_neg hy]; exact yields_pure h rfl
  case and => rw [binOp_and]; exact yields_pure h rfl
  case or => rw [binOp_or]; exact yields_pure h rfl
  case xor => rw [binOp_xor]; exact yields_pure h rfl
  case andNot => rw [binOp_andNot]; exact yields_pure h rfl
  case eql => rw [binOp_eql]; exact yields_pure h (by show Value.bool _ = Value.bool _; congr 1)
  case neq => rw [binOp_neq]; exact yields_pure h (by show Value.bool _ = Value.bool _; congr 1; by_cases e : x = y <;> simp [e])
  case lss => rw [binOp_lss]; exact yields_pure h rfl
  case leq => rw [binOp_leq]; exact yields_pure h rfl
  case gtr => rw [binOp_gtr]; exact yields_pure h rfl
  case geq => rw [binOp_geq]; exact yields_pure h rfl
theorem shop_sound {op : BinOp} {k l : IntKind} {x y : Int} {t : TypeId} (h : shop op k x y K = some r) : Yields P ρ base σ w K r (binOp op t (.int k x) (.int l y)) := by
  cases op <;> simp only [shop] at h <;> try (cases h; done)
  all_goals
    split at h
    · cases h
    · rename_i hy
      first | rw [binOp_shl] | rw [binOp_shr]
      simp only [Op.shift, if_neg hy]
      exact yields_pure h rfl
theorem sop_sound {op : BinOp} {x y : ByteArray} {t : TypeId} (h : sop op x y K = some r) : Yields P ρ base σ w K r (binOp op t (.string x) (.string y)) := by
  cases op <;> simp only [sop] at h <;> try (cases h; done)
  case add =>
    obtain ⟨z, hz, h⟩ := Option.bind_eq_some_iff.1 h
    unfold scat at hz
    split at hz
    · rename_i hle
      obtain rfl := Option.some.inj hz
      refine yields_of ?_ h rfl
      have : ¬ (((x.size + y.size : Nat) : Int) > 9223372036854775807) := by omega
      simp only [binOp, Op.stringOp, IntKind.max_i64, if_neg this]
      rfl
    · cases hz
  case eql => exact yields_of rfl h (by show Value.bool _ = Value.bool _; rw [beq_bytes])
  case neq => exact yields_of rfl h (by show Value.bool _ = Value.bool _; rw [beq_bytes]; by_cases e : x = y <;> simp [e])
theorem part_one {I : TI} {t : TypeId} {cs : Array Value} {off : Nat} {v : Value} (hd : mkD (P.underlying t) = I.d) (hs : I.d.scal = true) (hv : cs[off]? = some v) : (part t cs off).run P w = .ok v w := by
  have h1 := isAgg_of (P := P) hd (by intro e; rw [e] at hs; cases hs) w
  have h2 : I.d.isAgg = false := by
    cases h : I.d <;> rw [h] at hs <;> first | rfl | cases hs
  rw [h2] at h1
  simp [part, h1, hv]
inductive Sc : D → AV → AV → Prop
  | int (k0 k : IntKind) (x y : Int) : Sc (.int k0) (.int k x) (.int k y)
  | bool (p : Prop) (d : Decidable p) (q : Prop) (e : Decidable q) : Sc .bool (.bool p d) (.bool q e)
  | str (x y : ByteArray) : Sc .str (.str x) (.str y)
theorem sc_of {D0 : D} {ds : List D} {a b : AV} {as bs : List AV} {z : Σ' p : Prop, Decidable p} (h : same (D0 :: ds) (a :: as) (b :: bs) = some z) : Sc D0 a b := by
  cases D0 with
  | int k0 =>
    cases a with
    | int k x =>
      cases b with
      | int l y =>
        simp only [same] at h
        split at h
        · rename_i hk; subst hk; exact .int ..
        · cases h
      | _ => exact absurd h (by simp [same])
    | _ => exact absurd h (by simp [same])
  | bool =>
    cases a with
    | bool p d =>
      cases b with
      | bool q e => exact .bool ..
      | _ => exact absurd h (by simp [same])
    | _ => exact absurd h (by simp [same])
  | str =>
    cases a with
    | str x =>
      cases b with
      | str y => exact .str ..
      | _ => exact absurd h (by simp [same])
    | _ => exact absurd h (by simp [same])
  | _ => exact absurd h (by simp [same])
/-- Scalars are held against each other one by one. -/
theorem scal_eq {D0 : D} {t : TypeId} (d : Nat) (hd : mkD (P.underlying t) = D0) {a b : AV} {u v : Value} {p : Prop} {dp : Decidable p} (h : same [D0] [a] [b] = some ⟨p, dp⟩) (ga : RA ρ base σ w a u) (gb : RA ρ base σ w b v) :
    (Op.equalIn (d + 1) t u v).run P w = .ok (@decide p dp) w ∧ D0.scal = true := by
  have hs := sc_of h
  cases hs
  case int k0 k x y =>
    simp only [same, if_true] at h
    cases h
    rw [show u = _ from ga, show v = _ from gb, run_equalIn_int w d t k k0 x y (und_int hd)]
    exact ⟨by congr 1; by_cases e : x = y <;> simp [e], rfl⟩
  case bool p1 d1 q1 e1 =>
    simp only [same] at h
    cases h
    rw [show u = _ from ga, show v = _ from gb, run_equalIn_bool' w d t _ _ (und_bool hd)]
    exact ⟨by congr 1; by_cases e : @decide p1 d1 = @decide q1 e1 <;> simp [e], rfl⟩
  case str x y =>
    simp only [same] at h
    cases h
    rw [show u = _ from ga, show v = _ from gb, run_equalIn_string w d t x y (und_str hd), beq_bytes]
    exact ⟨by congr 1; by_cases e : x = y <;> simp [e], rfl⟩
theorem same_cons {D0 : D} {ds : List D} {a b : AV} {as bs : List AV} {p : Prop} {dp : Decidable p} (h : same (D0 :: ds) (a :: as) (b :: bs) = some ⟨p, dp⟩) :
    ∃ p1 d1 p2 d2, same [D0] [a] [b] = some ⟨p1, d1⟩ ∧ same ds as bs = some ⟨p2, d2⟩ ∧ @decide p dp = (@decide p1 d1 && @decide p2 d2) := by
  have hs := sc_of h
  cases hs
  case int k0 k x y =>
    simp only [same, if_true] at h ⊢
    split at h
    · rename_i p2 d2 h2
      cases h
      exact ⟨_, _, p2, d2, rfl, h2, by by_cases e : x = y <;> by_cases f : p2 <;> simp [e, f]⟩
    · cases h
  case bool p1 d1 q1 e1 =>
    simp only [same] at h ⊢
    split at h
    · rename_i p2 d2 h2
      cases h
      exact ⟨_, _, p2, d2, rfl, h2, by by_cases e : @decide p1 d1 = @decide q1 e1 <;> by_cases f : p2 <;> simp [e, f]⟩
    · cases h
  case str x y =>
    simp only [same] at h ⊢
    split at h
    · rename_i p2 d2 h2
      cases h
      exact ⟨_, _, p2, d2, rfl, h2, by by_cases e : x = y <;> by_cases f : p2 <;> simp [e, f]⟩
    · cases h
theorem fields_eq {C : Ctx} (hT : TabOk P C.T) (d : Nat) (xs ys : Array Value) : ∀ (fs : List Field) (k : Nat) (as bs : List AV) (p : Prop) (dp : Decidable p),
    same (fs.map fun f => (C.ti f.type).d) as bs = some ⟨p, dp⟩ → RAs ρ base σ w as (xs.toList.drop k) → RAs ρ base σ w bs (ys.toList.drop k) → fs.map (·.offset) = List.range' k fs.length → (∀ f ∈ fs, f.name ≠ "_") →
    (Op.eqFields (d + 1) xs ys fs).run P w = .ok (@decide p dp) w
  | [], k, as, bs, p, dp, h, _, _, _, _ => by
    cases as <;> cases bs <;> simp only [List.map_nil, same] at h <;> cases h
    rfl
  | f :: fs, k, [], bs, p, dp, h, _, _, _, _ => by simp [same] at h
  | f :: fs, k, a :: as, [], p, dp, h, _, _, _, _ => by simp [same] at h
  | f :: fs, k, a :: as, b :: bs, p, dp, h, ga, gb, ho, hn => by
    obtain ⟨p1, d1, p2, d2, h1, h2, he⟩ := same_cons h
    obtain ⟨u, us, eu, gu, gus⟩ := ga
    obtain ⟨v, vs, ev, gv, gvs⟩ := gb
    simp only [List.map_cons, List.length_cons, List.range'_succ, List.cons.injEq] at ho
    obtain ⟨ho1, ho2⟩ := ho
    have h1 : same [(C.ti f.type).d] [a] [b] = some ⟨p1, d1⟩ := h1
    have hne : (C.ti f.type).d ≠ .other := fun e => by rw [e] at h1; cases a <;> cases b <;> simp [same] at h1
    obtain ⟨i, z, kn⟩ := known hT hne
    have hq := scal_eq (w := w) (ρ := ρ) (base := base) (σ := σ) d kn.desc h1 gu gv
    have hx : xs[f.offset]? = some u := by rw [ho1, ← Array.getElem?_toList]; have := congrArg (fun l => l[0]?) eu; simpa using this
    have hy : ys[f.offset]? = some v := by rw [ho1, ← Array.getElem?_toList]; have := congrArg (fun l => l[0]?) ev; simpa using this
    have hx' : xs.toList.drop (k + 1) = us := by rw [← List.drop_drop, eu]; rfl
    have hy' : ys.toList.drop (k + 1) = vs := by rw [← List.drop_drop, ev]; rfl
    have ih := fields_eq hT d xs ys fs (k + 1) as bs p2 d2 h2 (by rw [hx']; exact gus) (by rw [hy']; exact gvs) ho2 (fun f' hf => hn f' (List.mem_cons_of_mem _ hf))
    have p1' := part_one (w := w) (P := P) kn.desc hq.2 hx
    have p2' := part_one (w := w) (P := P) kn.desc hq.2 hy
    simp only [Op.eqFields, if_pos (hn f (List.mem_cons_self ..)), Sem.run_bind, p1', p2', hq.1, Result.andThen_ok, Sem.run_ite, ih]
    rw [he]
    cases @decide p1 d1 <;> simp
theorem range_eq {e : TypeId} {I : TI} {i : TypeInfo} {z : Value} (kn : Known P e I i z) (d : Nat) (xs ys : Array Value) (hsz : I.size = 1) : ∀ (n k : Nat) (as bs : List AV) (p : Prop) (dp : Decidable p),
    same (List.replicate n I.d) as bs = some ⟨p, dp⟩ → RAs ρ base σ w as (xs.toList.drop k) → RAs ρ base σ w bs (ys.toList.drop k) →
    ((forIn (List.range' k n) ((none, ()) : Option Bool × Unit) fun j _ => do
      if (!(← Op.equalIn (d + 1) e (← part e xs (j * I.size)) (← part e ys (j * I.size)))) = true then pure (.done (some false, ())) else pure (.yield (none, ())) : Sem _).run P w).andThen
      (fun a w' => (match a.fst with | some r => (pure r : Sem Bool) | none => pure true).run P w') = .ok (@decide p dp) w
  | 0, k, as, bs, p, dp, h, _, _ => by
    cases as <;> cases bs <;> simp only [List.replicate_zero, same] at h <;> cases h
    simp
  | n + 1, k, [], bs, p, dp, h, _, _ => by rw [List.replicate_succ] at h; simp [same] at h
  | n + 1, k, a :: as, [], p, dp, h, _, _ => by rw [List.replicate_succ] at h; simp [same] at h
  | n + 1, k, a :: as, b :: bs, p, dp, h, ga, gb => by
    rw [List.replicate_succ] at h
    obtain ⟨p1, d1, p2, d2, h1, h2, he⟩ := same_cons h
    obtain ⟨u, us, eu, gu, gus⟩ := ga
    obtain ⟨v, vs, ev, gv, gvs⟩ := gb
    have hq := scal_eq (w := w) (ρ := ρ) (base := base) (σ := σ) d kn.desc h1 gu gv
    have hx : xs[k]? = some u := by rw [← Array.getElem?_toList]; have := congrArg (fun l => l[0]?) eu; simpa using this
    have hy : ys[k]? = some v := by rw [← Array.getElem?_toList]; have := congrArg (fun l => l[0]?) ev; simpa using this
    have hx' : xs.toList.drop (k + 1) = us := by rw [← List.drop_drop, eu]; rfl
    have hy' : ys.toList.drop (k + 1) = vs := by rw [← List.drop_drop, ev]; rfl
    have ih := range_eq kn d xs ys hsz n (k + 1) as bs p2 d2 h2 (by rw [hx']; exact gus) (by rw [hy']; exact gvs)
    have p1' := part_one (w := w) (P := P) kn.desc hq.2 hx
    have p2' := part_one (w := w) (P := P) kn.desc hq.2 hy
    rw [List.range'_succ, List.forIn_cons]
    simp only [hsz, Nat.mul_one, Sem.run_bind, p1', p2', hq.1, Result.andThen_ok, Sem.run_ite] at ih ⊢
    rw [he]
    cases @decide p1 d1
    · simp
    · simpa using ih
end Go.Proofs.Ytnhogpbibcgpkaa.Xe
