import Derived.Test.YtkaihbkfobiejaaGreatDoorZ15
import Derived.Test.YtkaihbkfobiejaaGreatDoorZ22
import Derived.Test.YtkaihbkfobiejaaGreatDoorZ13
import Derived.Test.YtkaihbkfobiejaaGreatDoorZ23
import Derived.Test.YtkaihbkfobiejaaGreatDoorZ19
import Derived.Test.YtkaihbkfobiejaaGreatDoorZ7
import Derived.Test.YtkaihbkfobiejaaGreatDoorZ6
import Derived.Test.YtkaihbkfobiejaaGreatDoorZ21
import Derived.Test.YtkaihbkfobiejaaGreatDoorZ9
namespace Go.Proofs.YtkaihbkfobiejaaGreatDoor.Xe
open Go Go.RowKit Go.Proofs.YtkaihbkfobiejaaGreatDoor.Sp
set_option linter.unusedVariables false
set_option linter.unusedSimpArgs false
set_option maxRecDepth 100000
theorem ruleOf_mem' {n : Int} : ∀ {l : List RU}, (ruleOf n l).2 = true → (ruleOf n l).1 ∈ l
 | [], h => by cases h
 | r :: l, h => by
  rw [ruleOf] at h ⊢
  by_cases c : r.2.1 = n
  ·rw [if_pos c]; exact List.mem_cons_self ..
  ·rw [if_neg c] at h ⊢
   exact List.mem_cons_of_mem _ (ruleOf_mem' h)
theorem rule_Apply (r : RU) (hr : okR r) (b1 b2 : Int) (b : List S5) (hb : b.length ≤ 1000000) (t : ByteArray) : rule_Apply.f (r, (b1, b2, b), t) = some (applyR r b t) := by
 obtain ⟨r0, r1, r2, r3, r4⟩ := r
 obtain ⟨t, rfl⟩ := ex_sb t
 unfold applyR
 simp only [rule_Apply.f]
 by_cases c1 : r0 = 1
 ·rw [if_pos c1, if_pos c1]
 rw [if_neg c1, if_neg c1]
 by_cases c2 : r0 = 2
 ·rw [if_pos c2, if_pos c2]
 rw [if_neg c2, if_neg c2]
 by_cases c3 : r0 = 3
 ·rw [if_pos c3, if_pos c3]
 rw [if_neg c3, if_neg c3]
 by_cases c4 : r0 = 4
 ·rw [if_pos c4, if_pos c4, schema_Find b1 b2 b hb, Option.bind_some, digits_Pad, Option.bind_some, bl_sb]
  by_cases k1 : (findS r2 b).2 = true
  ·rw [if_neg (not_not_intro k1), if_neg (show ¬ (findS r2 b).2 = false by rw [k1]; simp)]
   dsimp only
   by_cases k2 : (padB t (findS r2 b).1.2.2.2.1).2 = true
   ·rw [if_neg (not_not_intro k2), if_neg (show ¬ (padB t (findS r2 b).1.2.2.2.1).2 = false by rw [k2]; simp)]
   ·rw [if_pos k2, if_pos (show (padB t (findS r2 b).1.2.2.2.1).2 = false by simpa using k2)]
  ·rw [if_pos k1, if_pos (show (findS r2 b).2 = false by simpa using k1)]
 rw [if_neg c4, if_neg c4]
 by_cases c5 : r0 = 5
 ·rw [if_pos c5, if_pos c5, codes_Apply r4 hr.2, Option.bind_some]
  by_cases k1 : (applyP (sb t) r4).2 = true
  ·rw [if_neg (by simpa using k1), if_neg (by simpa using k1)]
  ·rw [if_pos (by simpa using k1), if_pos (by simpa using k1)]
 ·rw [if_neg c5, if_neg c5]
theorem trL_eq (l : List RU) (hl : ∀ r ∈ l, okR r) (b : SC) (hb : b.2.2.length ≤ 1000000) (t : ByteArray) : ∀ g o : List V, trL l b t g o = some (trP l b.2.2 t g o)
 | [], o => rfl
 | v :: g, o => by
  rw [trL, trP]
  cases c : (ruleOf v.1 l).2
  ·rw [if_pos rfl, if_pos rfl]
  ·rw [if_neg (by simp), if_neg (by simp), rule_Apply _ (hl _ (ruleOf_mem' c)) b.1 b.2.1 b.2.2 hb v.2, Option.bind_some]
   by_cases c2 : ¬ (applyR (ruleOf v.1 l).1 b.2.2 v.2).2 = 0
   ·rw [if_pos c2, if_pos c2]
   rw [if_neg c2, if_neg c2]
   by_cases c3 : ¬ (applyR (ruleOf v.1 l).1 b.2.2 v.2).1.1 = 0
   ·rw [if_pos c3, if_pos c3]; exact trL_eq l hl b hb t g _
   ·rw [if_neg c3, if_neg c3]; exact trL_eq l hl b hb t g _
theorem okM_ins {l : List V} (n : Int) (x : ByteArray) (h : l.length ≤ 999999 ∧ ∀ v ∈ l, v.2.size ≤ 1000000000000) (hx : x.size ≤ 1000000000000) : okM (withV n x l) := by
 have hw := withV_length' n x l
 refine ⟨by omega, fun v hv => ?_⟩
 unfold withV at hv
 rw [insV_cut] at hv
 rcases List.mem_append.1 hv with hv | hv
 ·rcases List.mem_append.1 hv with hv | hv
  ·exact h.2 v ((List.mem_filter.1 (List.mem_of_mem_take hv)).1)
  ·rw [List.mem_singleton.1 hv]; exact hx
 ·exact h.2 v ((List.mem_filter.1 (List.mem_of_mem_drop hv)).1)
theorem getV_size {n : Int} {k : Nat} : ∀ {l : List V}, (∀ v ∈ l, v.2.size ≤ k) → (getV n l).1.size ≤ k
 | [], _ => Nat.zero_le _
 | v :: l, h => by
  rw [getV]
  split
  ·exact h v (List.mem_cons_self ..)
  ·exact getV_size fun w hw => h w (List.mem_cons_of_mem _ hw)
theorem okM_echoed {l : List V} (hl : ∀ v ∈ l, v.2.size ≤ 1000000000000) : ∀ (m : List Int) (o : List V), o.length + m.length ≤ 999999 → (∀ v ∈ o, v.2.size ≤ 1000000000000) → (echoed l m o).length ≤ 999999 ∧ ∀ v ∈ echoed l m o, v.2.size ≤ 1000000000000
 | [], o, h1, h2 => ⟨by show o.length ≤ 999999; simpa using h1, h2⟩
 | x :: m, o, h1, h2 => by
  rw [List.length_cons] at h1
  rw [echoed]
  split
  ·have hw := withV_length' x (getV x l).1 o
   exact okM_echoed hl m _ (by omega) (okM_ins x _ ⟨by omega, h2⟩ (getV_size hl)).2
  ·exact okM_echoed hl m o (by omega) h2
theorem okM_greatR {x : RJ} (h : greatR x = false) : x.1.2.2.length ≤ 1000000 ∧ x.2.2.1.length ≤ 1000000 ∧ okM x.2.2.2 := by
 obtain ⟨h1, h2, h3, h4⟩ := greatR_no h
 exact ⟨by omega, by omega, by omega, fun v hv => by have := h4 v hv; omega⟩
theorem padB_length (l : List UInt8) (w : Int) : (padB l w).1.length ≤ 999 + l.length := by
 unfold padB
 split
 ·simp
 ·split
  ·rw [List.length_append, List.length_replicate]; omega
  ·split
   ·rw [List.length_drop]; omega
   ·simp
theorem applyP_size {t : ByteArray} {k : Nat} : ∀ {l : List PB}, (∀ p ∈ l, p.2.size ≤ k) → (applyP t l).1.size ≤ k
 | [], _ => Nat.zero_le _
 | p :: l, h => by
  rw [applyP]
  split
  ·exact h p (List.mem_cons_self ..)
  ·exact applyP_size fun q hq => h q (List.mem_cons_of_mem _ hq)
theorem applyR_size {r : RU} (hr : okR r) (b : List S5) {t : ByteArray} (ht : t.size ≤ 100000000) : (applyR r b t).1.2.size ≤ 1000000000000 := by
 obtain ⟨t, rfl⟩ := ex_sb t
 rw [size_sb] at ht
 unfold applyR
 have h3 := hr.1
 have h0 : (ByteArray.mk #[]).size = 0 := rfl
 have hp := padB_length t (findS r.2.2.1 b).1.2.2.2.1
 have ha := applyP_size (t := sb t) fun p hp => (hr.2.2 p hp).2
 split
 ·dsimp only; rw [size_sb]; omega
 split
 ·dsimp only; rw [h0]; omega
 split
 ·exact h3
 split
 ·split
  ·dsimp only; rw [h0]; omega
  ·split
   ·dsimp only; rw [h0]; omega
   ·dsimp only; rw [bl_sb, size_sb]; omega
 split
 ·split
  ·dsimp only; rw [h0]; omega
  ·exact ha
 ·dsimp only; rw [h0]; omega
theorem trP_okM {l : List RU} (hl : ∀ r ∈ l, okR r) (b : List S5) (t : ByteArray) : ∀ (g o : List V), (∀ v ∈ g, v.2.size ≤ 100000000) → o.length + g.length ≤ 999999 → (∀ v ∈ o, v.2.size ≤ 1000000000000) → okM (trP l b t g o).1.2
 | [], o, _, h1, h2 => ⟨by show o.length ≤ _; simp at h1; omega, h2⟩
 | v :: g, o, h0, h1, h2 => by
  rw [List.length_cons] at h1
  rw [trP]
  have emp : okM ([] : List V) := ⟨by simp, fun v hv => by cases hv⟩
  split
  ·exact emp
  ·rename_i c
   have hr := hl _ (ruleOf_mem' (show (ruleOf v.1 l).2 = true by simpa using c))
   have hs := applyR_size hr b (h0 v (List.mem_cons_self ..))
   split
   ·exact emp
   ·split
    ·have hw := withV_length' (applyR (ruleOf v.1 l).1 b v.2).1.1 (applyR (ruleOf v.1 l).1 b v.2).1.2 o
     exact trP_okM hl b t g _ (fun w hw => h0 w (List.mem_cons_of_mem _ hw)) (by omega) (okM_ins _ _ ⟨by omega, h2⟩ hs).2
    ·exact trP_okM hl b t g o (fun w hw => h0 w (List.mem_cons_of_mem _ hw)) (by omega) h2
theorem constL_okM : ∀ (l : List RU) (o : List V), (∀ r ∈ l, okR r) → o.length + l.length ≤ 900000 → (∀ v ∈ o, v.2.size ≤ 1000000000000) → (constL l o).length ≤ o.length + l.length ∧ ∀ v ∈ constL l o, v.2.size ≤ 1000000000000
 | [], o, _, _, h2 => ⟨by simp [constL], h2⟩
 | r :: l, o, hr, h1, h2 => by
  rw [List.length_cons] at h1 ⊢
  rw [constL]
  split
  ·have hw := withV_length' r.2.2.1 r.2.2.2.1 o
   obtain ⟨k1, k2⟩ := constL_okM l (withV r.2.2.1 r.2.2.2.1 o) (fun q hq => hr q (List.mem_cons_of_mem _ hq)) (by omega) (okM_ins _ _ ⟨by omega, h2⟩ (hr r (List.mem_cons_self ..)).1).2
   exact ⟨by omega, k2⟩
  ·obtain ⟨k1, k2⟩ := constL_okM l o (fun q hq => hr q (List.mem_cons_of_mem _ hq)) (by omega) h2
   exact ⟨by omega, k2⟩
theorem trM_some {m : RC} (hm : okC m) (hm2 : m.2.length ≤ 300) (a b : SC) (hb : b.2.2.length ≤ 1000000) (x : M2) (h1 : x.2.length ≤ 200) (h2 : ∀ v ∈ x.2, v.2.size ≤ 100000000) : ∃ y, trM m a b x = some y ∧ okM y.1.2 := by
 have emp : okM ([] : List V) := ⟨by simp, fun v hv => by cases hv⟩
 unfold trM
 split
 ·exact ⟨_, rfl, emp⟩
 split
 ·exact ⟨_, rfl, emp⟩
 split
 ·exact ⟨_, rfl, emp⟩
 ·obtain ⟨k1, k2⟩ := constL_okM m.2 [] hm.2.2 (by simp; omega) (fun v hv => by cases hv)
  rw [trL_eq m.2 hm.2.2 b hb]
  exact ⟨_, rfl, trP_okM hm.2.2 b.2.2 _ _ _ h2 (by simp at k1; omega) k2⟩
theorem decM_small (x : Int × Int × List S5) (b : List UInt8) (hb : b.length ≤ 1000000) : ∀ v ∈ (decM x b).1.2, v.2.size ≤ 1000 := fun v hv => by
 by_cases h : (decM x b).1.1 = []
 ·rcases decM_cases x b with ⟨h1, -, -⟩ | ⟨-, h2, -⟩
  ·rw [h1] at hv; cases hv
  ·rw [h] at h2; cases h2
 ·have hr := ((msgE_zero _ _ _).1.1 (decM_part h).1).2
  obtain ⟨-, hr⟩ := hr.mem_right hv
  have := specV_len hr.2
  rw [size_bl]; omega
theorem outcome1_some (x : RJ) (hx : greatR x = false) (t : List UInt8) (g : List V) (h1 : g.length ≤ 200) (h2 : ∀ v ∈ g, v.2.size ≤ 1000) (y z : Int) (w : RJ × RJ) (most : Int) : ∃ k, route_Outcome_1.f ((sb t, g), (y, z), x, w, most) = some k := by
 obtain ⟨⟨q1, q2, s⟩, c, e, l⟩ := x
 obtain ⟨⟨w1, w2, w3⟩, ⟨w4, w5⟩, w6, w7⟩ := w.1
 obtain ⟨c1, c2⟩ := c
 obtain ⟨h3, h4, h5⟩ := okM_greatR hx
 obtain ⟨g1, g2, g3, g4⟩ := greatR_no hx
 dsimp only at h3 h4 h5 g1 g2 g3 g4
 simp only [route_Outcome_1.f]
 rw [reject_Build (q1, q2, s) (c1, c2) e (by omega) l (by omega) t g (by omega) y z, Option.bind_some, rejB]
 split
 ·rw [if_neg (by simp)]
  have hq := okM_echoed (l := g) (fun v hv => by have := h2 v hv; omega) e [] (by simp; omega) (fun v hv => by cases hv)
  have hc : (codeV y l).size ≤ 1000000000000 := by
   unfold codeV
   split
   ·exact getV_size h5.2
   ·exact getV_size h5.2
  dsimp only
  rw [wire_Encode q1 q2 s h3 (answer t) _ (okM_ins 39 _ hq hc), Option.bind_some]
  split
  ·exact ⟨_, rfl⟩
  ·split <;> exact ⟨_, rfl⟩
 ·rw [if_pos (by simp)]; exact ⟨_, rfl⟩
theorem side_some (x y : RJ) (hx : greatR x = false) (hy : greatR y = false) (hm : greatM x.2.1 = false) (w : RJ × RJ) (most : Int) (p : List UInt8) (hp : p.length ≤ 1000000) :
  ∃ k, ((strict_Decode.f (x.1, sb p)).bind fun b7 =>
    (if ¬Prod.fst (Prod.snd b7) = 0 then ((route_Outcome_1.f (Prod.fst b7, Prod.snd b7, x, w, most)).bind fun b8 => (some b8))
    else ((xlate_Translate.f (x.2.1, x.1, y.1, Prod.fst b7)).bind fun b9 =>
     (if ¬Prod.fst (Prod.snd b9) = 0 then ((route_Outcome_1.f (Prod.fst b7, Prod.snd b9, x, w, most)).bind fun b10 => (some b10))
     else ((wire_Encode.f (y.1, Prod.fst b9)).bind fun b11 =>
     (if ((ByteArray.size (Prod.fst b11) : Nat) : Int) > most then ((route_Outcome_1.f (Prod.fst b7, (5, 129), x, w, most)).bind fun b12 => (some b12))
     else (some ((1, Prod.fst b11))))))))) = some k := by
 obtain ⟨h3, -, -⟩ := okM_greatR hx
 obtain ⟨k3, -, -⟩ := okM_greatR hy
 obtain ⟨⟨a1, a2, a⟩, c, e, l⟩ := x
 obtain ⟨⟨b1, b2, b⟩, c', e', l'⟩ := y
 obtain ⟨m1, m2, m3⟩ := okC_of hm
 dsimp only at h3 k3 m1 m2 m3 ⊢
 have hl := decM_len (a1, a2, a) p
 have hs := decM_small (a1, a2, a) p hp
 rw [strict_Decode a1 a2 a h3 p (by omega), Option.bind_some]
 dsimp only
 have o1 : ∀ f : Int × Int, ∃ k, ((route_Outcome_1.f ((sb (decM (a1, a2, a) p).1.1, (decM (a1, a2, a) p).1.2), f, ((a1, a2, a), c, e, l), w, most)).bind fun b8 => some b8) = some k := fun f => by
  obtain ⟨k, hk⟩ := outcome1_some ((a1, a2, a), c, e, l) hx (decM (a1, a2, a) p).1.1 (decM (a1, a2, a) p).1.2 (by omega) hs f.1 f.2 w most
  exact ⟨k, by rw [show (f : Int × Int) = (f.1, f.2) from rfl, hk]; rfl⟩
 split
 ·exact o1 _
 ·rw [xlate_Translate c m1 (a1, a2, a) (b1, b2, b) h3 k3 _ ⟨by dsimp only; omega, fun v hv => by have := hs v hv; omega⟩]
  obtain ⟨z, hz, hz2⟩ := trM_some m1 m3 (a1, a2, a) (b1, b2, b) k3 (sb (decM (a1, a2, a) p).1.1, (decM (a1, a2, a) p).1.2) (by dsimp only; omega) (fun v hv => by have := hs v hv; omega)
  rw [hz, Option.bind_some]
  split
  ·exact o1 _
  ·obtain ⟨⟨zt, zl⟩, zf⟩ := z
   obtain ⟨zt, rfl⟩ := ex_sb zt
   dsimp only at hz2 ⊢
   rw [wire_Encode b1 b2 b k3 zt zl hz2, Option.bind_some]
   split
   ·exact o1 _
   ·exact ⟨_, rfl⟩
@[reducible] def r05_In.sg : List Shp := [.v (.sl (.int .i64)), .v (.int .i64)]
@[reducible] def r05_In.rs : Rs := .one (.v (.bool))
@[reducible] noncomputable def r05_In.code : Code := Tryz.f140.body.getD .skip
noncomputable def r05_In.C : Ctx := ⟨tab, [], [], ⟨[(2, [0, 1, 5], 0)], []⟩⟩
noncomputable def r05_In.l0 (n : Nat) (v0 : List Int) (v1 v2 : Int) : Option Bool := run r05_In.C (finOf r05_In.C Tryz.f140 r05_In.rs) n (todoAt 2 r05_In.code) ⟨.sl none (.int .i64) v0 :: .int .i64 v1 :: zJ :: zJ :: zJ :: .int .i64 v2 :: zJ :: zJ :: zJ :: zJ :: zK [], [], []⟩
theorem r05_In.l0_eq n v0 v1 v2 : r05_In.l0 (n + 1) v0 v1 v2 =
 (if v2 < (v0.length : Int) then ((lget v0 v2).bind fun b0 =>
 (if b0 = v1 then (some true)
 else (r05_In.l0 n v0 v1 (IntKind.wrap .i64 (v2 + 1)))))
 else (some false)) := by kernel_rfl
theorem r05_In.eq (n : Nat) (a0 : List Int) (a1 : Int) : call r05_In.C Tryz.f140 r05_In.code r05_In.sg r05_In.rs n (a0, a1) =
 (r05_In.l0 n a0 a1 0) := by kernel_rfl
def r05_In.f (x : List Int × Int) : Option Bool := if x.1.length ≤ 1000000 then some (decide (x.2 ∈ x.1)) else none
theorem r05_In (L : List Int) (hL : L.length ≤ 1000000) (n : Int) : r05_In.f (L, n) = some (decide (n ∈ L)) := if_pos hL
theorem r05_In_l (L : List Int) (hL : L.length ≤ 1000000) (n : Int) : ∀ (m : List Int) (k i : Nat), L.drop i = m → i + m.length = L.length → m.length < k → r05_In.l0 k L n (i : Int) = some (decide (n ∈ m))
 | [], k, i, hd, hi, hk => by
  obtain ⟨k, rfl⟩ : ∃ m, k = m + 1 := ⟨k - 1, by omega⟩
  have hi' : i = L.length := by simpa using hi
  rw [r05_In.l0_eq, if_neg (by omega)]; simp
 | a :: m, k, i, hd, hi, hk => by
  obtain ⟨k, rfl⟩ : ∃ m, k = m + 1 := ⟨k - 1, by omega⟩
  have hi' : i + (m.length + 1) = L.length := by simpa using hi
  have hk' : m.length < k := by simp at hk; omega
  have hlt : i < L.length := by omega
  have hd' := hd
  rw [List.drop_eq_getElem_cons hlt] at hd'
  obtain ⟨e1, e2⟩ := List.cons.inj hd'
  rw [r05_In.l0_eq, if_pos (by omega), lget_nat _ _ hlt, Option.bind_some, e1, wrap_succ (by omega), r05_In_l L hL n m k (i + 1) e2 (by omega) hk']
  by_cases h : a = n
  ·rw [if_pos h]; simp [h]
  ·rw [if_neg h]
   have : n ≠ a := fun e => h e.symm
   simp [this]
noncomputable def r05_In.c : Con := ⟨140, r05_In.sg, r05_In.rs, r05_In.f⟩
theorem r05_In.con : ConOk Tryz.prog r05_In.c := walked (C := r05_In.C) rfl (by kernel_rfl) (by kernel_rfl) (by kernel_rfl) rfl trivial fun ⟨L, n⟩ y h => by
 have h : r05_In.f (L, n) = some y := h
 unfold r05_In.f at h
 split at h
 ·rename_i hc
  exact ⟨L.length + 1, by rw [r05_In.eq]; exact (r05_In_l L hc n L _ 0 rfl (by simp) (by omega)).trans h⟩
 ·cases h
@[reducible] def r23_Check.sg : List Shp := [.a zdK]
@[reducible] def r23_Check.rs : Rs := .tup [.v (.int .i64), .v (.int .i64), .v (.int .i64)]
@[reducible] noncomputable def r23_Check.code : Code := Tryz.f111.body.getD .skip
noncomputable def r23_Check.C : Ctx := ⟨tab, [r13_Right.c, r13_Find.c, r05_In.c, r23_find.c, r11_Value.c], [], ⟨[(7, [1, 5, 6], 1), (16, [1, 5, 7], 1)], []⟩⟩
noncomputable def r23_Check.l0 (n : Nat) (v0 v1 v2 v3 : Int) (v4 : List z5) (v5 : List zP) (v6 : List zR) (v7 : List Int) (v8 : List zE) : Option ((Int × (Int × Int))) := run r23_Check.C (finOf r23_Check.C Tryz.f111 r23_Check.rs) n (todoAt 7 r23_Check.code) ⟨zJ :: .ptr 0 0 :: zJ :: zJ :: zJ :: .int .i64 v0 :: .int .i64 v1 :: zJ :: zJ :: zJ :: zJ :: zJ :: zK (zK (zK (zK (zK (zK (zK (zK (zK (zK (zK (zK (zK [])))))))))))), [[.int .i64 v2, .int .i64 v3, .sl none zd5 v4, .sl none zdP v5, .sl none zdR v6, .sl none (.int .i64) v7, .sl none zdE v8]], []⟩
noncomputable def r23_Check.l1 (n : Nat) (v0 v1 v2 v3 : Int) (v4 : List z5) (v5 : List zP) (v6 : List zR) (v7 : List Int) (v8 : List zE) : Option ((Int × (Int × Int))) := run r23_Check.C (finOf r23_Check.C Tryz.f111 r23_Check.rs) n (todoAt 16 r23_Check.code) ⟨zJ :: .ptr 0 0 :: zJ :: zJ :: zJ :: .int .i64 v0 :: zJ :: .int .i64 v1 :: zJ :: zJ :: zJ :: zJ :: zK (zK (zK (zK (zK (zK (zK (zK (zK (zK (zK (zK (zK [])))))))))))), [[.int .i64 v2, .int .i64 v3, .sl none zd5 v4, .sl none zdP v5, .sl none zdR v6, .sl none (.int .i64) v7, .sl none zdE v8]], []⟩
theorem r23_Check.l0_eq n v0 v1 v2 v3 v4 v5 v6 v7 v8 : r23_Check.l0 (n + 1) v0 v1 v2 v3 v4 v5 v6 v7 v8 =
 (if v1 < (v7.length : Int) then ((lget v7 v1).bind fun b2 =>
 ((r13_Find.f ((v2, v3, v4), b2)).bind fun b3 =>
 (if b3 < 0 then (some ((9, 2, v1)))
 else ((lget v7 v1).bind fun b4 =>
 (if b4 = 39 then (some ((1, 2, v1)))
 else ((lsub v7 0 v1).bind fun b5 =>
 ((lget v7 v1).bind fun b6 =>
 ((r05_In.f (b5, b6)).bind fun b7 =>
 (if b7 = true then (some ((10, 2, v1)))
 else (r23_Check.l0 n v0 (IntKind.wrap .i64 (v1 + 1)) v2 v3 v4 v5 v6 v7 v8))))))))))
 else (r23_Check.l1 n v0 0 v2 v3 v4 v5 v6 v7 v8)) := by kernel_rfl
theorem r23_Check.l1_eq n v0 v1 v2 v3 v4 v5 v6 v7 v8 : r23_Check.l1 (n + 1) v0 v1 v2 v3 v4 v5 v6 v7 v8 =
 (if v1 < (v8.length : Int) then ((lget v8 v1).bind fun b8 =>
 (if b8.1 < 0 then (some ((1, 3, v1)))
 else ((lget v8 v1).bind fun b9 =>
 (if b9.1 > 16 then (some ((1, 3, v1)))
 else ((lget v8 v1).bind fun b10 =>
 ((r23_find.f (v8, v1, b10.1)).bind fun b11 =>
 (if b11 ≥ 0 then (some ((10, 3, v1)))
 else ((lget v4 v0).bind fun b12 =>
 ((lget v8 v1).bind fun b13 =>
 ((r11_Value.f (b12, b13.2)).bind fun b14 =>
 (if ¬b14 = 0 then (some ((b14, 3, v1)))
 else (r23_Check.l1 n v0 (IntKind.wrap .i64 (v1 + 1)) v2 v3 v4 v5 v6 v7 v8))))))))))))
 else ((r23_find.f (v8, (v8.length : Int), 0)).bind fun b15 =>
 (if b15 < 0 then (some ((15, 3, (v8.length : Int))))
 else (some ((0, 0, 0)))))) := by kernel_rfl
theorem r23_Check.eq (n : Nat) (a0 a1 : Int) (a2 : List z5) (a3 : List zP) (a4 : List zR) (a5 : List Int) (a6 : List zE) : call r23_Check.C Tryz.f111 r23_Check.code r23_Check.sg r23_Check.rs n ((a0, (a1, a2)), ((a3, a4), (a5, a6))) =
 ((r13_Right.f (a0, a1, a2)).bind fun b0 =>
 (if ¬b0 = true then (some ((1, 1, 0)))
 else ((r13_Find.f ((a0, a1, a2), 39)).bind fun b1 =>
 (if b1 < 0 then (some ((9, 1, 1)))
 else (r23_Check.l0 n b1 0 a0 a1 a2 a3 a4 a5 a6))))) := by kernel_rfl
def r23_Check.f (x : RJ) : Option (Int × Int × Int) := if x.1.2.2.length ≤ 1000000 ∧ x.2.2.1.length ≤ 1000000 ∧ okM x.2.2.2 then some (rejE x) else none
theorem r23_Check (x : RJ) (h : x.1.2.2.length ≤ 1000000 ∧ x.2.2.1.length ≤ 1000000 ∧ okM x.2.2.2) : r23_Check.f x = some (rejE x) := if_pos h
theorem find_take (n : Int) (l : List V) : (findV n 0 l < 0) ↔ ¬ n ∈ l.map Prod.fst := by
 have := findV_mem n l 0
 constructor
 ·intro h e; have := this.2 e; omega
 ·intro h
  by_cases q : findV n 0 l ≥ 0
  ·exact absurd (this.1 q) h
  ·omega
theorem r23_Check_l1 (q1 q2 : Int) (s : List S5) (c1 : List (ByteArray × ByteArray)) (c2 : List (Int × Int × Int × ByteArray × List (ByteArray × ByteArray))) (e : List Int) (l : List V) (hl : okM l) (a : Int) (p : S5) (hp : lget s a = some p) : ∀ (m : List V) (k i : Nat), l.drop i = m → (∀ v ∈ m, v.2.size ≤ 1000000000000) → m.length < k →
  r23_Check.l1 k a (i : Int) q1 q2 s c1 c2 e l = some (match codesE p (l.take i) i m with
   | some r => r
   | none => if (0 : Int) ∈ l.map Prod.fst then (0, 0, 0) else (15, 3, (l.length : Int)))
 | [], k, i, hd, hv, hk => by
  obtain ⟨k, rfl⟩ : ∃ m, k = m + 1 := ⟨k - 1, by omega⟩
  have := dropn hd
  have f := r23_find l hl.1 l.length (Nat.le_refl _) 0
  rw [List.take_length] at f
  have ft := find_take 0 l
  rw [r23_Check.l1_eq, if_neg (by omega), f, Option.bind_some, codesE]
  by_cases c : (0 : Int) ∈ l.map Prod.fst
  ·rw [if_neg (fun q => ft.1 q c)]
   dsimp only
   rw [if_pos c]
  ·rw [if_pos (ft.2 c)]
   dsimp only
   rw [if_neg c]
 | v :: m, k, i, hd, hv, hk => by
  obtain ⟨k, rfl⟩ : ∃ m, k = m + 1 := ⟨k - 1, by omega⟩
  obtain ⟨h1, h2, h3, h4⟩ := dropc hd
  have hk' : m.length < k := by simp at hk; omega
  have hl1 := hl.1
  have ih := r23_Check_l1 q1 q2 s c1 c2 e l hl a p hp m k (i + 1) h2 (fun w hw => hv w (List.mem_cons_of_mem _ hw)) hk'
  rw [take_snoc hd] at ih
  have hz := hv v (List.mem_cons_self ..)
  rw [size_bl] at hz
  have hsv := r11_Value p.1 p.2.1 p.2.2.1 p.2.2.2.1 p.2.2.2.2 (bl v.2) hz
  rw [sb_bl] at hsv
  have hsv : r11_Value.f (p, v.2) = some (specA p (bl v.2)) := hsv
  have fm := findV_mem v.1 (l.take i) 0
  rw [r23_Check.l1_eq, if_pos (by omega), h4, Option.bind_some, Option.bind_some, Option.bind_some, r23_find l hl1 i (by omega), Option.bind_some, hp, Option.bind_some, Option.bind_some, hsv, Option.bind_some, wrap_succ (by omega), ih, codesE]
  by_cases k0 : v.1 < 0
  ·rw [if_pos k0, if_pos (.inl k0)]
  rw [if_neg k0]
  by_cases k1 : v.1 > 16
  ·rw [if_pos k1, if_pos (.inr k1)]
  rw [if_neg k1, if_neg (show ¬ (v.1 < 0 ∨ 16 < v.1) by omega)]
  by_cases k2 : v.1 ∈ (l.take i).map Prod.fst
  ·rw [if_pos (fm.2 k2), if_pos k2]
  rw [if_neg (fun q => k2 (fm.1 q)), if_neg k2]
  by_cases k3 : specA p (bl v.2) = 0
  ·rw [if_neg (not_not_intro k3), if_neg (not_not_intro k3)]
  ·rw [if_pos k3, if_pos k3]
theorem r23_Check_l0 (q1 q2 : Int) (s : List S5) (hs : s.length ≤ 1000000) (c1 : List (ByteArray × ByteArray)) (c2 : List (Int × Int × Int × ByteArray × List (ByteArray × ByteArray))) (e : List Int) (he : e.length ≤ 1000000) (l : List V) (a : Int) : ∀ (m : List Int) (k i : Nat), e.drop i = m →
  r23_Check.l0 (k + m.length + 1) a (i : Int) q1 q2 s c1 c2 e l = match echoE s (e.take i) i m with
   | some r => some r
   | none => r23_Check.l1 k a 0 q1 q2 s c1 c2 e l
 | [], k, i, hd => by
  have := dropn hd
  rw [r23_Check.l0_eq, if_neg (by omega)]; rfl
 | x :: m, k, i, hd => by
  obtain ⟨h1, h2, h3, h4⟩ := dropc hd
  have ih := r23_Check_l0 q1 q2 s hs c1 c2 e he l a m k (i + 1) h2
  rw [take_snoc hd] at ih
  rw [r23_Check.l0_eq, if_pos (by omega), h4, Option.bind_some, r13_Find q1 q2 s hs, Option.bind_some, Option.bind_some, lsub_take e i (by omega), Option.bind_some, Option.bind_some, r05_In _ (by rw [List.length_take]; omega), Option.bind_some, wrap_succ (by omega), List.length_cons, ← Nat.add_assoc k m.length 1, ih, echoE]
  rcases idxS_find x s s 0 rfl with ⟨g1, g2⟩ | ⟨g1, g2, -⟩
  ·rw [if_pos g1, if_pos g2]
  rw [if_neg g1, if_neg (show ¬ (findS x s).2 = false by rw [g2]; decide)]
  by_cases k2 : x = 39
  ·rw [if_pos k2, if_pos k2]
  rw [if_neg k2, if_neg k2]
  by_cases k3 : x ∈ e.take i
  ·rw [if_pos (decide_eq_true k3), if_pos k3]
  ·rw [if_neg (by simpa using k3), if_neg k3]
noncomputable def r23_Check.c : Con := ⟨111, r23_Check.sg, r23_Check.rs, r23_Check.f⟩
theorem r23_Check.con : ConOk Tryz.prog r23_Check.c := walked (C := r23_Check.C) rfl (by kernel_rfl) (by kernel_rfl) (by kernel_rfl) rfl ⟨r13_Right.con, r13_Find.con, r05_In.con, r23_find.con, r11_Value.con, trivial⟩ fun ⟨⟨q1, q2, s⟩, ⟨c1, c2⟩, e, l⟩ y h => by
 have h : r23_Check.f ((q1, q2, s), (c1, c2), e, l) = some y := h
 unfold r23_Check.f at h
 split at h
 ·rename_i hc
  obtain ⟨hs, he, hl⟩ := hc
  dsimp only at hs he hl
  refine ⟨(List.length (α := V) l + 1) + List.length (α := Int) e + 1, ?_⟩
  rw [r23_Check.eq, r13_Right q1 q2 s hs, Option.bind_some, r13_Find q1 q2 s hs, Option.bind_some, ← h]
  unfold rejE
  dsimp only
  by_cases k1 : (schemaE (q1, q2, s)).1 = 0
  ·rw [if_neg (by simpa using k1), if_neg (not_not_intro k1)]
   rcases idxS_find 39 s s 0 rfl with ⟨g1, g2⟩ | ⟨g1, g2, g3⟩
   ·rw [if_pos g1, if_pos g2]
   rw [if_neg g1, if_neg (show ¬ (findS 39 s).2 = false by rw [g2]; decide)]
   have r0 := r23_Check_l0 q1 q2 s hs c1 c2 e he l (idxS 39 0 s) e (List.length (α := V) l + 1) 0 rfl
   have r1 := r23_Check_l1 q1 q2 s c1 c2 e l hl (idxS 39 0 s) (findS 39 s).1 g3 l (List.length (α := V) l + 1) 0 rfl hl.2 (by omega)
   rw [List.take_zero] at r0 r1
   refine r0.trans ?_
   cases echoE s [] 0 e with
   | some r => rfl
   | none => exact r1
  ·rw [if_pos (by simpa using k1), if_pos k1]
 ·cases h
abbrev CFG := (RJ × RJ) × Int
@[reducible] def r24_Great.sg : List Shp := [.a zdG]
@[reducible] def r24_Great.rs : Rs := .one (.v (.bool))
@[reducible] noncomputable def r24_Great.code : Code := Tryz.f27.body.getD .skip
noncomputable def r24_Great.C : Ctx := ⟨tab, [r21_Great.c, r23_Great.c], [], ⟨[], []⟩⟩
theorem r24_Great.eq (n : Nat) (a0 a1 : Int) (a2 : List z5) (a3 : List zP) (a4 : List zR) (a5 : List Int) (a6 : List zE) (a7 a8 : Int) (a9 : List z5) (a10 : List zP) (a11 : List zR) (a12 : List Int) (a13 : List zE) (a14 : Int) : call r24_Great.C Tryz.f27 r24_Great.code r24_Great.sg r24_Great.rs n ((((a0, (a1, a2)), ((a3, a4), (a5, a6))), ((a7, (a8, a9)), ((a10, a11), (a12, a13)))), a14) =
 ((r23_Great.f ((a0, a1, a2), (a3, a4), a5, a6)).bind fun b0 =>
 (if b0 = true then (some true)
 else ((r23_Great.f ((a7, a8, a9), (a10, a11), a12, a13)).bind fun b1 =>
 (if b1 = true then (some true)
 else ((r21_Great.f (a3, a4)).bind fun b2 =>
 (if b2 = true then (some true)
 else ((r21_Great.f (a10, a11)).bind fun b3 =>
 (some (decide (b3 = true)))))))))) := by kernel_rfl
noncomputable def r24_Great.f : El (sgTy r24_Great.sg) → Option (El r24_Great.rs.ty) := fun x => match x with
 | ((((a0, (a1, a2)), ((a3, a4), (a5, a6))), ((a7, (a8, a9)), ((a10, a11), (a12, a13)))), a14) =>
 ((r23_Great.f ((a0, a1, a2), (a3, a4), a5, a6)).bind fun b0 =>
 (if b0 = true then (some true)
 else ((r23_Great.f ((a7, a8, a9), (a10, a11), a12, a13)).bind fun b1 =>
  (if b1 = true then (some true)
  else ((r21_Great.f (a3, a4)).bind fun b2 =>
  (if b2 = true then (some true)
  else ((r21_Great.f (a10, a11)).bind fun b3 =>
   (some (decide (b3 = true))))))))))
noncomputable def r24_Great.c : Con := ⟨27, r24_Great.sg, r24_Great.rs, r24_Great.f⟩
theorem r24_Great.con : ConOk Tryz.prog r24_Great.c := walked (C := r24_Great.C) rfl (by kernel_rfl) (by kernel_rfl) (by kernel_rfl) rfl ⟨r21_Great.con, r23_Great.con, trivial⟩ fun ⟨⟨⟨⟨a0, ⟨a1, a2⟩⟩, ⟨⟨a3, a4⟩, ⟨a5, a6⟩⟩⟩, ⟨⟨a7, ⟨a8, a9⟩⟩, ⟨⟨a10, a11⟩, ⟨a12, a13⟩⟩⟩⟩, a14⟩ y h => ⟨0, (r24_Great.eq 0 a0 a1 a2 a3 a4 a5 a6 a7 a8 a9 a10 a11 a12 a13 a14).trans h⟩
def greatC (c : CFG) : Bool := greatR c.1.1 || (greatR c.1.2 || (greatM c.1.1.2.1 || greatM c.1.2.2.1))
theorem r24_Great (c : CFG) : r24_Great.f c = some (greatC c) := by
 obtain ⟨⟨⟨⟨a0, a1, a2⟩, ⟨a3, a4⟩, a5, a6⟩, ⟨a7, a8, a9⟩, ⟨a10, a11⟩, a12, a13⟩, a14⟩ := c
 simp only [r24_Great.f, greatC]
 rw [r23_Great, Option.bind_some]
 cases greatR ((a0, a1, a2), (a3, a4), a5, a6) with
 | true => rw [if_pos rfl]; rfl
 | false =>
  rw [if_neg (by simp), r23_Great, Option.bind_some]
  cases greatR ((a7, a8, a9), (a10, a11), a12, a13) with
  | true => rw [if_pos rfl]; rfl
  | false =>
   rw [if_neg (by simp), show r21_Great.f (a3, a4) = some (greatM (a3, a4)) from rfl, Option.bind_some]
   cases greatM (a3, a4) with
   | true => rw [if_pos rfl]; rfl
   | false =>
    rw [if_neg (by simp), show r21_Great.f (a10, a11) = some (greatM (a10, a11)) from rfl, Option.bind_some]
    simp
theorem greatC_no {c : CFG} (h : greatC c = false) : greatR c.1.1 = false ∧ greatR c.1.2 = false ∧ greatM c.1.1.2.1 = false ∧ greatM c.1.2.2.1 = false := by
 unfold greatC at h
 simp only [Bool.or_eq_false_iff] at h
 exact h
@[reducible] def r24_Check.sg : List Shp := [.a zdG]
@[reducible] def r24_Check.rs : Rs := .tup [.v (.int .i64), .v (.int .i64), .v (.int .i64)]
@[reducible] noncomputable def r24_Check.code : Code := Tryz.f67.body.getD .skip
noncomputable def r24_Check.C : Ctx := ⟨tab, [r23_Check.c, r21_Check.c], [], ⟨[(4, [1, 5], 1)], []⟩⟩
noncomputable def r24_Check.l0 (n : Nat) (v0 v1 v2 : Int) (v3 : List z5) (v4 : List zP) (v5 : List zR) (v6 : List Int) (v7 : List zE) (v8 v9 : Int) (v10 : List z5) (v11 : List zP) (v12 : List zR) (v13 : List Int) (v14 : List zE) (v15 : Int) : Option ((Int × (Int × Int))) := run r24_Check.C (finOf r24_Check.C Tryz.f67 r24_Check.rs) n (todoAt 4 r24_Check.code) ⟨zJ :: .ptr 0 0 :: zJ :: zJ :: zJ :: .int .i64 v0 :: zK (zK (zK (zK (zK (zK (zK [])))))), [[.int .i64 v1, .int .i64 v2, .sl none zd5 v3, .sl none zdP v4, .sl none zdR v5, .sl none (.int .i64) v6, .sl none zdE v7, .int .i64 v8, .int .i64 v9, .sl none zd5 v10, .sl none zdP v11, .sl none zdR v12, .sl none (.int .i64) v13, .sl none zdE v14, .int .i64 v15]], []⟩
theorem r24_Check.l0_eq n v0 v1 v2 v3 v4 v5 v6 v7 v8 v9 v10 v11 v12 v13 v14 v15 : r24_Check.l0 (n + 1) v0 v1 v2 v3 v4 v5 v6 v7 v8 v9 v10 v11 v12 v13 v14 v15 =
 (if v0 < 2 then (if v0 = 0 then ((r23_Check.f ((v1, v2, v3), (v4, v5), v6, v7)).bind fun b0 =>
 (if ¬b0.1 = 0 then (some ((b0.1, v0, 1)))
 else (if v0 = 0 then (if v0 = 0 then (if IntKind.wrap .i64 (1 - v0) = 0 then ((r21_Check.f ((v4, v5), (v1, v2, v3), v1, v2, v3)).bind fun b1 =>
 (if ¬b1.1 = 0 then (some ((b1.1, v0, 2)))
 else (r24_Check.l0 n (IntKind.wrap .i64 (v0 + 1)) v1 v2 v3 v4 v5 v6 v7 v8 v9 v10 v11 v12 v13 v14 v15)))
 else (if IntKind.wrap .i64 (1 - v0) = (↑1 : Int) then ((r21_Check.f ((v4, v5), (v1, v2, v3), v8, v9, v10)).bind fun b2 =>
 (if ¬b2.1 = 0 then (some ((b2.1, v0, 2)))
 else (r24_Check.l0 n (IntKind.wrap .i64 (v0 + 1)) v1 v2 v3 v4 v5 v6 v7 v8 v9 v10 v11 v12 v13 v14 v15)))
 else none))
 else (if v0 = (↑1 : Int) then (if IntKind.wrap .i64 (1 - v0) = 0 then ((r21_Check.f ((v4, v5), (v8, v9, v10), v1, v2, v3)).bind fun b3 =>
 (if ¬b3.1 = 0 then (some ((b3.1, v0, 2)))
 else (r24_Check.l0 n (IntKind.wrap .i64 (v0 + 1)) v1 v2 v3 v4 v5 v6 v7 v8 v9 v10 v11 v12 v13 v14 v15)))
 else (if IntKind.wrap .i64 (1 - v0) = (↑1 : Int) then ((r21_Check.f ((v4, v5), (v8, v9, v10), v8, v9, v10)).bind fun b4 =>
 (if ¬b4.1 = 0 then (some ((b4.1, v0, 2)))
 else (r24_Check.l0 n (IntKind.wrap .i64 (v0 + 1)) v1 v2 v3 v4 v5 v6 v7 v8 v9 v10 v11 v12 v13 v14 v15)))
 else none))
 else none))
 else (if v0 = (↑1 : Int) then (if v0 = 0 then (if IntKind.wrap .i64 (1 - v0) = 0 then ((r21_Check.f ((v11, v12), (v1, v2, v3), v1, v2, v3)).bind fun b5 =>
 (if ¬b5.1 = 0 then (some ((b5.1, v0, 2)))
 else (r24_Check.l0 n (IntKind.wrap .i64 (v0 + 1)) v1 v2 v3 v4 v5 v6 v7 v8 v9 v10 v11 v12 v13 v14 v15)))
 else (if IntKind.wrap .i64 (1 - v0) = (↑1 : Int) then ((r21_Check.f ((v11, v12), (v1, v2, v3), v8, v9, v10)).bind fun b6 =>
 (if ¬b6.1 = 0 then (some ((b6.1, v0, 2)))
 else (r24_Check.l0 n (IntKind.wrap .i64 (v0 + 1)) v1 v2 v3 v4 v5 v6 v7 v8 v9 v10 v11 v12 v13 v14 v15)))
 else none))
 else (if v0 = (↑1 : Int) then (if IntKind.wrap .i64 (1 - v0) = 0 then ((r21_Check.f ((v11, v12), (v8, v9, v10), v1, v2, v3)).bind fun b7 =>
 (if ¬b7.1 = 0 then (some ((b7.1, v0, 2)))
 else (r24_Check.l0 n (IntKind.wrap .i64 (v0 + 1)) v1 v2 v3 v4 v5 v6 v7 v8 v9 v10 v11 v12 v13 v14 v15)))
 else (if IntKind.wrap .i64 (1 - v0) = (↑1 : Int) then ((r21_Check.f ((v11, v12), (v8, v9, v10), v8, v9, v10)).bind fun b8 =>
 (if ¬b8.1 = 0 then (some ((b8.1, v0, 2)))
 else (r24_Check.l0 n (IntKind.wrap .i64 (v0 + 1)) v1 v2 v3 v4 v5 v6 v7 v8 v9 v10 v11 v12 v13 v14 v15)))
 else none))
 else none))
 else none))))
 else (if v0 = (↑1 : Int) then ((r23_Check.f ((v8, v9, v10), (v11, v12), v13, v14)).bind fun b9 =>
 (if ¬b9.1 = 0 then (some ((b9.1, v0, 1)))
 else (if v0 = 0 then (if v0 = 0 then (if IntKind.wrap .i64 (1 - v0) = 0 then ((r21_Check.f ((v4, v5), (v1, v2, v3), v1, v2, v3)).bind fun b10 =>
 (if ¬b10.1 = 0 then (some ((b10.1, v0, 2)))
 else (r24_Check.l0 n (IntKind.wrap .i64 (v0 + 1)) v1 v2 v3 v4 v5 v6 v7 v8 v9 v10 v11 v12 v13 v14 v15)))
 else (if IntKind.wrap .i64 (1 - v0) = (↑1 : Int) then ((r21_Check.f ((v4, v5), (v1, v2, v3), v8, v9, v10)).bind fun b11 =>
 (if ¬b11.1 = 0 then (some ((b11.1, v0, 2)))
 else (r24_Check.l0 n (IntKind.wrap .i64 (v0 + 1)) v1 v2 v3 v4 v5 v6 v7 v8 v9 v10 v11 v12 v13 v14 v15)))
 else none))
 else (if v0 = (↑1 : Int) then (if IntKind.wrap .i64 (1 - v0) = 0 then ((r21_Check.f ((v4, v5), (v8, v9, v10), v1, v2, v3)).bind fun b12 =>
 (if ¬b12.1 = 0 then (some ((b12.1, v0, 2)))
 else (r24_Check.l0 n (IntKind.wrap .i64 (v0 + 1)) v1 v2 v3 v4 v5 v6 v7 v8 v9 v10 v11 v12 v13 v14 v15)))
 else (if IntKind.wrap .i64 (1 - v0) = (↑1 : Int) then ((r21_Check.f ((v4, v5), (v8, v9, v10), v8, v9, v10)).bind fun b13 =>
 (if ¬b13.1 = 0 then (some ((b13.1, v0, 2)))
 else (r24_Check.l0 n (IntKind.wrap .i64 (v0 + 1)) v1 v2 v3 v4 v5 v6 v7 v8 v9 v10 v11 v12 v13 v14 v15)))
 else none))
 else none))
 else (if v0 = (↑1 : Int) then (if v0 = 0 then (if IntKind.wrap .i64 (1 - v0) = 0 then ((r21_Check.f ((v11, v12), (v1, v2, v3), v1, v2, v3)).bind fun b14 =>
 (if ¬b14.1 = 0 then (some ((b14.1, v0, 2)))
 else (r24_Check.l0 n (IntKind.wrap .i64 (v0 + 1)) v1 v2 v3 v4 v5 v6 v7 v8 v9 v10 v11 v12 v13 v14 v15)))
 else (if IntKind.wrap .i64 (1 - v0) = (↑1 : Int) then ((r21_Check.f ((v11, v12), (v1, v2, v3), v8, v9, v10)).bind fun b15 =>
 (if ¬b15.1 = 0 then (some ((b15.1, v0, 2)))
 else (r24_Check.l0 n (IntKind.wrap .i64 (v0 + 1)) v1 v2 v3 v4 v5 v6 v7 v8 v9 v10 v11 v12 v13 v14 v15)))
 else none))
 else (if v0 = (↑1 : Int) then (if IntKind.wrap .i64 (1 - v0) = 0 then ((r21_Check.f ((v11, v12), (v8, v9, v10), v1, v2, v3)).bind fun b16 =>
 (if ¬b16.1 = 0 then (some ((b16.1, v0, 2)))
 else (r24_Check.l0 n (IntKind.wrap .i64 (v0 + 1)) v1 v2 v3 v4 v5 v6 v7 v8 v9 v10 v11 v12 v13 v14 v15)))
 else (if IntKind.wrap .i64 (1 - v0) = (↑1 : Int) then ((r21_Check.f ((v11, v12), (v8, v9, v10), v8, v9, v10)).bind fun b17 =>
 (if ¬b17.1 = 0 then (some ((b17.1, v0, 2)))
 else (r24_Check.l0 n (IntKind.wrap .i64 (v0 + 1)) v1 v2 v3 v4 v5 v6 v7 v8 v9 v10 v11 v12 v13 v14 v15)))
 else none))
 else none))
 else none))))
 else none))
 else (some ((0, 0, 0)))) := by kernel_rfl
theorem r24_Check.eq (n : Nat) (a0 a1 : Int) (a2 : List z5) (a3 : List zP) (a4 : List zR) (a5 : List Int) (a6 : List zE) (a7 a8 : Int) (a9 : List z5) (a10 : List zP) (a11 : List zR) (a12 : List Int) (a13 : List zE) (a14 : Int) : call r24_Check.C Tryz.f67 r24_Check.code r24_Check.sg r24_Check.rs n ((((a0, (a1, a2)), ((a3, a4), (a5, a6))), ((a7, (a8, a9)), ((a10, a11), (a12, a13)))), a14) =
 (if a14 < 1 then (some ((5, 2, 0)))
 else (if a14 > 65535 then (some ((5, 2, 0)))
 else (r24_Check.l0 n 0 a0 a1 a2 a3 a4 a5 a6 a7 a8 a9 a10 a11 a12 a13 a14))) := by kernel_rfl
noncomputable def r24_Check.f : El (sgTy r24_Check.sg) → Option (El r24_Check.rs.ty) := fun x => call r24_Check.C Tryz.f67 r24_Check.code r24_Check.sg r24_Check.rs 3 x
noncomputable def r24_Check.c : Con := ⟨67, r24_Check.sg, r24_Check.rs, r24_Check.f⟩
theorem r24_Check.con : ConOk Tryz.prog r24_Check.c := walked (C := r24_Check.C) rfl (by kernel_rfl) (by kernel_rfl) (by kernel_rfl) rfl ⟨r23_Check.con, r21_Check.con, trivial⟩ fun x y h => ⟨3, h⟩
theorem lit1 : IntKind.wrap .i64 (1 - (0 : Int)) = 1 := by decide
theorem lit2 : IntKind.wrap .i64 (1 - (1 : Int)) = 0 := by decide
theorem lit3 : IntKind.wrap .i64 ((0 : Int) + 1) = 1 := by decide
theorem lit4 : IntKind.wrap .i64 ((1 : Int) + 1) = 2 := by decide
structure CfgOk (c : CFG) : Prop where
 lo : 1 ≤ c.2
 hi : c.2 ≤ 65535
 r0 : (rejE c.1.1).1 = 0
 r1 : (rejE c.1.2).1 = 0
 m0 : (mapE c.1.1.2.1 c.1.1.1 c.1.2.1).1 = 0
 m1 : (mapE c.1.2.2.1 c.1.2.1 c.1.1.1).1 = 0
theorem r24_Check (c : CFG) (h : greatC c = false) : ∃ e, r24_Check.f c = some e ∧ (e.1 = 0 → CfgOk c) := by
 obtain ⟨g1, g2, g3, g4⟩ := greatC_no h
 obtain ⟨⟨⟨⟨a0, a1, a2⟩, ⟨a3, a4⟩, a5, a6⟩, ⟨a7, a8, a9⟩, ⟨a10, a11⟩, a12, a13⟩, a14⟩ := c
 dsimp only at g1 g2 g3 g4
 have q1 := okM_greatR g1
 have q2 := okM_greatR g2
 obtain ⟨q3, -, -⟩ := okC_of g3
 obtain ⟨q4, -, -⟩ := okC_of g4
 have e := r24_Check.eq 3 a0 a1 a2 a3 a4 a5 a6 a7 a8 a9 a10 a11 a12 a13 a14
 refine (show ∃ e, call r24_Check.C Tryz.f67 r24_Check.code r24_Check.sg r24_Check.rs 3 ((((a0, a1, a2), (a3, a4), a5, a6), (a7, a8, a9), (a10, a11), a12, a13), a14) = some e ∧ (e.1 = 0 → CfgOk ((((a0, a1, a2), (a3, a4), a5, a6), (a7, a8, a9), (a10, a11), a12, a13), a14)) from ?_)
 rw [e]
 clear e
 by_cases c1 : a14 < 1
 ·exact ⟨_, if_pos c1, fun q => by cases q⟩
 rw [if_neg c1]
 by_cases c2 : a14 > 65535
 ·exact ⟨_, if_pos c2, fun q => by cases q⟩
 rw [if_neg c2, r24_Check.l0_eq]
 simp (decide := true) only [lit1, lit2, lit3, if_true, if_false]
 rw [r23_Check ((a0, a1, a2), (a3, a4), a5, a6) q1, Option.bind_some]
 by_cases c3 : (rejE ((a0, a1, a2), (a3, a4), a5, a6)).1 = 0
 ·rw [if_neg (not_not_intro c3), r21_Check (a3, a4) q3 (a0, a1, a2) (a7, a8, a9) q1.1 q2.1, Option.bind_some]
  by_cases c4 : (mapR (a3, a4) (a0, a1, a2) (a7, a8, a9)).1 = 0
  ·rw [if_neg (not_not_intro c4), r24_Check.l0_eq]
   simp (decide := true) only [lit1, lit2, lit3, lit4, if_true, if_false]
   rw [r23_Check ((a7, a8, a9), (a10, a11), a12, a13) q2, Option.bind_some]
   by_cases c5 : (rejE ((a7, a8, a9), (a10, a11), a12, a13)).1 = 0
   ·rw [if_neg (not_not_intro c5), r21_Check (a10, a11) q4 (a7, a8, a9) (a0, a1, a2) q2.1 q1.1, Option.bind_some]
    by_cases c6 : (mapR (a10, a11) (a7, a8, a9) (a0, a1, a2)).1 = 0
    ·rw [if_neg (not_not_intro c6), r24_Check.l0_eq]
     simp (decide := true) only [if_false]
     exact ⟨_, rfl, fun _ => ⟨by dsimp only; omega, by dsimp only; omega, c3, c5, mapR_zero c4, mapR_zero c6⟩⟩
    ·exact ⟨_, if_pos c6, fun q => absurd q c6⟩
   ·exact ⟨_, if_pos c5, fun q => absurd q c5⟩
  ·exact ⟨_, if_pos c4, fun q => absurd q c4⟩
 ·exact ⟨_, if_pos c3, fun q => absurd q c3⟩
@[reducible] def r24_Right.sg : List Shp := [.a zdG]
@[reducible] def r24_Right.rs : Rs := .one (.v (.bool))
@[reducible] noncomputable def r24_Right.code : Code := Tryz.f28.body.getD .skip
noncomputable def r24_Right.C : Ctx := ⟨tab, [r24_Check.c], [], ⟨[], []⟩⟩
theorem r24_Right.eq (n : Nat) (a0 a1 : Int) (a2 : List z5) (a3 : List zP) (a4 : List zR) (a5 : List Int) (a6 : List zE) (a7 a8 : Int) (a9 : List z5) (a10 : List zP) (a11 : List zR) (a12 : List Int) (a13 : List zE) (a14 : Int) : call r24_Right.C Tryz.f28 r24_Right.code r24_Right.sg r24_Right.rs n ((((a0, (a1, a2)), ((a3, a4), (a5, a6))), ((a7, (a8, a9)), ((a10, a11), (a12, a13)))), a14) =
 ((r24_Check.f ((((a0, a1, a2), (a3, a4), a5, a6), (a7, a8, a9), (a10, a11), a12, a13), a14)).bind fun b0 =>
 (some (decide (b0.1 = 0)))) := by kernel_rfl
noncomputable def r24_Right.f : El (sgTy r24_Right.sg) → Option (El r24_Right.rs.ty) := fun x => call r24_Right.C Tryz.f28 r24_Right.code r24_Right.sg r24_Right.rs 0 x
noncomputable def r24_Right.c : Con := ⟨28, r24_Right.sg, r24_Right.rs, r24_Right.f⟩
theorem r24_Right.con : ConOk Tryz.prog r24_Right.c := walked (C := r24_Right.C) rfl (by kernel_rfl) (by kernel_rfl) (by kernel_rfl) rfl ⟨r24_Check.con, trivial⟩ fun x y h => ⟨0, h⟩
theorem r24_Right (c : CFG) (h : greatC c = false) : ∃ b, r24_Right.f c = some b ∧ (b = true → CfgOk c) := by
 obtain ⟨e, h1, h2⟩ := r24_Check c h
 obtain ⟨⟨⟨⟨a0, a1, a2⟩, ⟨a3, a4⟩, a5, a6⟩, ⟨a7, a8, a9⟩, ⟨a10, a11⟩, a12, a13⟩, a14⟩ := c
 refine ⟨decide (e.1 = 0), ?_, fun q => h2 (of_decide_eq_true q)⟩
 refine (r24_Right.eq 0 a0 a1 a2 a3 a4 a5 a6 a7 a8 a9 a10 a11 a12 a13 a14).trans ?_
 rw [h1, Option.bind_some]
theorem route_Check (c : CFG) (h : greatC c = false) (ok : CfgOk c) : route_Check.f c = some (0, 0, 0) := by
 obtain ⟨g1, g2, g3, g4⟩ := greatC_no h
 obtain ⟨⟨⟨⟨a0, a1, a2⟩, ⟨a3, a4⟩, a5, a6⟩, ⟨a7, a8, a9⟩, ⟨a10, a11⟩, a12, a13⟩, a14⟩ := c
 obtain ⟨h1, h2, h3, h4, h5, h6⟩ := ok
 dsimp only at g1 g2 g3 g4 h1 h2 h3 h4 h5 h6
 have q1 := okM_greatR g1
 have q2 := okM_greatR g2
 obtain ⟨q3, -, -⟩ := okC_of g3
 obtain ⟨q4, -, -⟩ := okC_of g4
 refine (route_Check.eq 3 a0 a1 a2 a3 a4 a5 a6 a7 a8 a9 a10 a11 a12 a13 a14).trans ?_
 rw [if_neg (by omega), if_neg (by omega), route_Check.l0_eq]
 simp (decide := true) only [lit1, lit2, lit3, if_true, if_false]
 rw [reject_Check ((a0, a1, a2), (a3, a4), a5, a6) q1, Option.bind_some, if_neg (not_not_intro h3), xlate_Check (a3, a4) q3 (a0, a1, a2) (a7, a8, a9) q1.1 q2.1, Option.bind_some, if_neg (not_not_intro h5), route_Check.l0_eq]
 simp (decide := true) only [lit1, lit2, lit3, lit4, if_true, if_false]
 rw [reject_Check ((a7, a8, a9), (a10, a11), a12, a13) q2, Option.bind_some, if_neg (not_not_intro h4), xlate_Check (a10, a11) q4 (a7, a8, a9) (a0, a1, a2) q2.1 q1.1, Option.bind_some, if_neg (not_not_intro h6), route_Check.l0_eq]
 simp (decide := true) only [if_false]
theorem route_Outcome_some (c : CFG) (h : greatC c = false) (ok : CfgOk c) (link : Int) (hl : link = 0 ∨ link = 1) (p : ByteArray) (hp : p.size ≤ 1000000) : ∃ k, route_Outcome.f (c, link, p) = some k := by
 have hc := route_Check c h ok
 obtain ⟨g1, g2, g3, g4⟩ := greatC_no h
 obtain ⟨⟨⟨⟨a0, a1, a2⟩, ⟨a3, a4⟩, a5, a6⟩, ⟨a7, a8, a9⟩, ⟨a10, a11⟩, a12, a13⟩, a14⟩ := c
 obtain ⟨p, rfl⟩ := ex_sb p
 rw [size_sb] at hp
 dsimp only at g1 g2 g3 g4
 have e := route_Outcome.eq 0 a0 a1 a2 a3 a4 a5 a6 a7 a8 a9 a10 a11 a12 a13 a14 link (sb p)
 refine (show ∃ k, call route_Outcome.C Tryz.f35 route_Outcome.code route_Outcome.sg route_Outcome.rs 0 (((((a0, a1, a2), (a3, a4), a5, a6), (a7, a8, a9), (a10, a11), a12, a13), a14), link, sb p) = some k from ?_)
 rw [e, hc, Option.bind_some, if_neg (not_not_intro rfl)]
 clear e
 rcases hl with rfl | rfl
 ·simp (decide := true) only [lit1, if_true, if_false]
  exact side_some ((a0, a1, a2), (a3, a4), a5, a6) ((a7, a8, a9), (a10, a11), a12, a13) g1 g2 g3 (((a0, a1, a2), (a3, a4), a5, a6), (a7, a8, a9), (a10, a11), a12, a13) a14 p hp
 ·simp (decide := true) only [lit2, if_true, if_false]
  exact side_some ((a7, a8, a9), (a10, a11), a12, a13) ((a0, a1, a2), (a3, a4), a5, a6) g2 g1 g4 (((a0, a1, a2), (a3, a4), a5, a6), (a7, a8, a9), (a10, a11), a12, a13) a14 p hp
@[reducible] def gateway_is.sg : List Shp := [.v (.int .i64)]
@[reducible] def gateway_is.rs : Rs := .one (.v (.bool))
@[reducible] noncomputable def gateway_is.code : Code := Tryz.f72.body.getD .skip
noncomputable def gateway_is.C : Ctx := ⟨tab, [], [], ⟨[], []⟩⟩
theorem gateway_is.eq (n : Nat) (a0 : Int) : call gateway_is.C Tryz.f72 gateway_is.code gateway_is.sg gateway_is.rs n a0 =
 (if a0 = 0 then (some true)
 else (some (decide (a0 = 1)))) := by kernel_rfl
noncomputable def gateway_is.f : El (sgTy gateway_is.sg) → Option (El gateway_is.rs.ty) := fun x => match x with
 | a0 =>
 (if a0 = 0 then (some true)
 else (some (decide (a0 = 1))))
noncomputable def gateway_is.c : Con := ⟨72, gateway_is.sg, gateway_is.rs, gateway_is.f⟩
theorem gateway_is.con : ConOk Tryz.prog gateway_is.c := walked (C := gateway_is.C) rfl (by kernel_rfl) (by kernel_rfl) (by kernel_rfl) rfl trivial fun a0 y h => ⟨0, (gateway_is.eq 0 a0).trans h⟩
@[reducible] def gateway_own.sg : List Shp := [.a zdK]
@[reducible] def gateway_own.rs : Rs := .one (.a zdK)
@[reducible] noncomputable def gateway_own.code : Code := Tryz.f70.body.getD .skip
noncomputable def gateway_own.C : Ctx := ⟨tab, [], [], ⟨[(5, [1, 2, 3, 25, 26, 27], 2)], []⟩⟩
noncomputable def gateway_own.l0 (n : Nat) (v0 v1 : List zR) (v2 v3 v4 v5 : Int) (v6 : List z5) (v7 : List zP) (v8 : List zR) (v9 : List Int) (v10 : List zE) (v11 v12 : Int) : Option (((Int × (Int × List ((Int × (Int × (Int × (Int × Int))))))) × ((List ((ByteArray × ByteArray)) × List ((Int × (Int × (Int × (ByteArray × List ((ByteArray × ByteArray)))))))) × (List Int × List ((Int × ByteArray)))))) := run gateway_own.C (finOf gateway_own.C Tryz.f70 gateway_own.rs) n (todoAt 5 gateway_own.code) ⟨zJ :: .ptr 0 0 :: .ptr 1 0 :: .sl (some 2) zdR v0 :: zJ :: zJ :: zJ :: zJ :: zJ :: zK (zK (.sl none zdR v1 :: .int .i64 v2 :: .int .i64 v3 :: zK (zK (zK [])))), [[.int .i64 v4, .int .i64 v5, .sl (some 0) zd5 v6, .sl (some 1) zdP v7, .sl none zdR v8, .sl none (.int .i64) v9, .sl none zdE v10], [.int .i64 v11, .int .i64 v12, .nilsl, .nilsl, .nilsl, .nilsl, .nilsl]], [true, true, true]⟩
theorem gateway_own.l0_eq n v0 v1 v2 v3 v4 v5 v6 v7 v8 v9 v10 v11 v12 : gateway_own.l0 (n + 1) v0 v1 v2 v3 v4 v5 v6 v7 v8 v9 v10 v11 v12 =
 (if v3 < v2 then ((lget v1 v3).bind fun b2 =>
 ((lcat 32 [] b2.2.2.2.2).bind fun b3 =>
 ((lcat 64 v0 [(b2.1, b2.2.1, b2.2.2.1, b2.2.2.2.1, b3)]).bind fun b4 =>
 (gateway_own.l0 n b4 v1 v2 (IntKind.wrap .i64 (v3 + 1)) v4 v5 v6 v7 v8 v9 v10 v11 v12))))
 else ((lcat 8 [] v9).bind fun b5 =>
 ((lcat 24 [] v10).bind fun b6 =>
 (some (((v4, v5, v6), (v7, v0), b5, b6)))))) := by kernel_rfl
theorem gateway_own.eq (n : Nat) (a0 a1 : Int) (a2 : List z5) (a3 : List zP) (a4 : List zR) (a5 : List Int) (a6 : List zE) : call gateway_own.C Tryz.f70 gateway_own.code gateway_own.sg gateway_own.rs n ((a0, (a1, a2)), ((a3, a4), (a5, a6))) =
 ((lcat 40 [] a2).bind fun b0 =>
 ((lcat 32 [] a3).bind fun b1 =>
 (if (0 : Int) = 0 ∧ 0 ≤ (a4.length : Int) ∧ 64 * (a4.length : Int) ≤ 281474976710656 ∧ (a4.length : Int) ≤ 9223372036854775807 then (gateway_own.l0 n [] a4 (a4.length : Int) 0 a0 a1 b0 b1 a4 a5 a6 0 0)
 else none))) := by kernel_rfl
def okSide (x : RJ) : Prop := x.1.2.2.length ≤ 1000000 ∧ okC x.2.1 ∧ x.2.2.1.length ≤ 1000000 ∧ x.2.2.2.length ≤ 1000000
instance (x : RJ) : Decidable (okSide x) := by unfold okSide; infer_instance
noncomputable def gateway_own.f (x : RJ) : Option RJ := if okSide x then some x else none
theorem gateway_own (x : RJ) (h : okSide x) : gateway_own.f x = some x := if_pos h
theorem gateway_own_l (l : List RU) (hl : l.length ≤ 100000) (hr : ∀ r ∈ l, okR r) (q1 q2 : Int) (s : List S5) (p : List PB) (l' : List RU) (e : List Int) (he : e.length ≤ 1000000) (c : List V) (hc : c.length ≤ 1000000) (z1 z2 : Int) : ∀ (m : List RU) (k i : Nat), l.drop i = m → m.length < k →
  gateway_own.l0 k (l.take i) l (l.length : Int) (i : Int) q1 q2 s p l' e c z1 z2 = some ((q1, q2, s), (p, l), e, c)
 | [], k, i, hd, hk => by
  obtain ⟨k, rfl⟩ : ∃ m, k = m + 1 := ⟨k - 1, by omega⟩
  have := dropn hd
  rw [gateway_own.l0_eq, if_neg (by omega), lcat_ok _ _ _ (by simp only [List.length_nil]; omega), Option.bind_some, lcat_ok _ _ _ (by simp only [List.length_nil]; omega), Option.bind_some, List.take_of_length_le this]
  rfl
 | r :: m, k, i, hd, hk => by
  obtain ⟨k, rfl⟩ : ∃ m, k = m + 1 := ⟨k - 1, by omega⟩
  obtain ⟨h1, h2, h3, h4⟩ := dropc hd
  have hk' : m.length < k := by simp at hk; omega
  have hr1 := (hr r (by have := List.drop_subset i l (a := r); rw [hd] at this; exact this (List.mem_cons_self ..))).2.1
  have tk : l.take (i + 1) = l.take i ++ [r] := by
   have : l[i]? = some r := by
    have := congrArg (fun z => z[0]?) hd
    simpa only [List.getElem?_drop, Nat.add_zero, List.getElem?_cons_zero] using this
   rw [List.take_add_one, this]; rfl
  rw [gateway_own.l0_eq, if_pos (by omega), h4, Option.bind_some, lcat_ok _ _ _ (by simp only [List.length_nil]; omega), Option.bind_some, List.nil_append, lcat_ok _ _ _ (by rw [List.length_take, List.length_singleton]; omega), Option.bind_some, wrap_succ (by omega)]
  rw [show (r.1, r.2.1, r.2.2.1, r.2.2.2.1, r.2.2.2.2) = r from rfl, ← tk]
  exact gateway_own_l l hl hr q1 q2 s p l' e he c hc z1 z2 m k (i + 1) h2 hk'
theorem gateway_own.run (q1 q2 : Int) (s : List S5) (p : List PB) (l : List RU) (e : List Int) (c : List V) (h : okSide ((q1, q2, s), (p, l), e, c)) : call gateway_own.C Tryz.f70 gateway_own.code gateway_own.sg gateway_own.rs (l.length + 1) ((q1, q2, s), (p, l), e, c) = some ((q1, q2, s), (p, l), e, c) := by
 obtain ⟨h1, ⟨h2, h3, h4⟩, h5, h6⟩ := h
 have hp := h2.1
 dsimp only at h1 h3 h4 h5 h6 hp
 rw [gateway_own.eq, lcat_ok _ _ _ (by simp only [List.length_nil]; omega), Option.bind_some, List.nil_append, lcat_ok _ _ _ (by simp only [List.length_nil]; omega), Option.bind_some, List.nil_append, if_pos ⟨rfl, by omega, by omega, by omega⟩]
 exact gateway_own_l l h3 h4 q1 q2 s p l e h5 c h6 0 0 l _ 0 rfl (by omega)
noncomputable def gateway_own.c : Con := ⟨70, gateway_own.sg, gateway_own.rs, gateway_own.f⟩
theorem gateway_own.con : ConOk Tryz.prog gateway_own.c := walked (C := gateway_own.C) rfl (by kernel_rfl) (by kernel_rfl) (by kernel_rfl) rfl trivial fun ⟨⟨q1, q2, s⟩, ⟨p, l⟩, e, c⟩ y h => by
 have h : gateway_own.f ((q1, q2, s), (p, l), e, c) = some y := h
 unfold gateway_own.f at h
 split at h
 ·rename_i hc
  exact ⟨_, (gateway_own.run q1 q2 s p l e c hc).trans h⟩
 ·cases h
theorem okSide_of {x : RJ} (h : greatR x = false) (hm : greatM x.2.1 = false) : okSide x := by
 obtain ⟨h1, h2, h3⟩ := okM_greatR h
 exact ⟨h1, (okC_of hm).1, h2, h3.1⟩
@[reducible] def gateway_New.sg : List Shp := [.a zdG]
@[reducible] def gateway_New.rs : Rs := .tup [.v (.int .i64)]
@[reducible] noncomputable def gateway_New.code : Code := Tryz.f30.body.getD .skip
noncomputable def gateway_New.C : Ctx := ⟨tab, [route_Check.c, gateway_own.c], [frame_New.s], ⟨[(6, [1, 7, 20], 4)], []⟩⟩
noncomputable def gateway_New.l0 (n : Nat) (v0 v1 v2 : Int) (v3 : List z5) (v4 : List zP) (v5 : List zR) (v6 : List Int) (v7 : List zE) (v8 v9 : Int) (v10 : List z5) (v11 : List zP) (v12 : List zR) (v13 : List Int) (v14 : List zE) (v15 v16 v17 : Int) (v18 : List z5) (v19 : List zP) (v20 : List zR) (v21 : List Int) (v22 : List zE) (v23 v24 : Int) (v25 : List z5) (v26 : List zP) (v27 : List zR) (v28 : List Int) (v29 : List zE) (v30 v31 : Int) : Option ((Int × ((((((Int × (Int × List ((Int × (Int × (Int × (Int × Int))))))) × ((List ((ByteArray × ByteArray)) × List ((Int × (Int × (Int × (ByteArray × List ((ByteArray × ByteArray)))))))) × (List Int × List ((Int × ByteArray))))) × ((Int × (Int × List ((Int × (Int × (Int × (Int × Int))))))) × ((List ((ByteArray × ByteArray)) × List ((Int × (Int × (Int × (ByteArray × List ((ByteArray × ByteArray)))))))) × (List Int × List ((Int × ByteArray)))))) × Int) × (Unit × (Unit × Int))) × ((Int × (Bool × List Int)) × (Int × (Bool × List Int)))))) := run gateway_New.C (finT gateway_New.C Tryz.f30 true gateway_New.rs gatewaySh) n (todoAt 6 gateway_New.code) ⟨zJ :: .ptr 0 0 :: zJ :: zJ :: zJ :: zJ :: zJ :: .ptr 1 0 :: zJ :: zJ :: zJ :: zJ :: zK (.int .i64 v0 :: zJ :: zJ :: zK (zK (zK []))), [[.int .i64 v1, .int .i64 v2, .sl none zd5 v3, .sl none zdP v4, .sl none zdR v5, .sl none (.int .i64) v6, .sl none zdE v7, .int .i64 v8, .int .i64 v9, .sl none zd5 v10, .sl none zdP v11, .sl none zdR v12, .sl none (.int .i64) v13, .sl none zdE v14, .int .i64 v15], [.int .i64 v16, .int .i64 v17, .sl none zd5 v18, .sl none zdP v19, .sl none zdR v20, .sl none (.int .i64) v21, .sl none zdE v22, .int .i64 v23, .int .i64 v24, .sl none zd5 v25, .sl none zdP v26, .sl none zdR v27, .sl none (.int .i64) v28, .sl none zdE v29, .int .i64 v30, .nilp, .nilp, .int .i64 v31]], []⟩
noncomputable def gateway_New.l1 (n : Nat) (v0 v1 v2 : Int) (v3 : List z5) (v4 : List zP) (v5 : List zR) (v6 : List Int) (v7 : List zE) (v8 v9 : Int) (v10 : List z5) (v11 : List zP) (v12 : List zR) (v13 : List Int) (v14 : List zE) (v15 v16 v17 : Int) (v18 : List z5) (v19 : List zP) (v20 : List zR) (v21 : List Int) (v22 : List zE) (v23 v24 : Int) (v25 : List z5) (v26 : List zP) (v27 : List zR) (v28 : List Int) (v29 : List zE) (v30 v31 v32 : Int) (v33 : Bool) (v34 : List Int) : Option ((Int × ((((((Int × (Int × List ((Int × (Int × (Int × (Int × Int))))))) × ((List ((ByteArray × ByteArray)) × List ((Int × (Int × (Int × (ByteArray × List ((ByteArray × ByteArray)))))))) × (List Int × List ((Int × ByteArray))))) × ((Int × (Int × List ((Int × (Int × (Int × (Int × Int))))))) × ((List ((ByteArray × ByteArray)) × List ((Int × (Int × (Int × (ByteArray × List ((ByteArray × ByteArray)))))))) × (List Int × List ((Int × ByteArray)))))) × Int) × (Unit × (Unit × Int))) × ((Int × (Bool × List Int)) × (Int × (Bool × List Int)))))) := run gateway_New.C (finT gateway_New.C Tryz.f30 true gateway_New.rs gatewaySh) n (todoAt 6 gateway_New.code) ⟨zJ :: .ptr 0 0 :: zJ :: zJ :: zJ :: zJ :: zJ :: .ptr 1 0 :: zJ :: zJ :: zJ :: zJ :: zK (.int .i64 v0 :: zJ :: zJ :: zK (zK (zK []))), [[.int .i64 v1, .int .i64 v2, .sl none zd5 v3, .sl none zdP v4, .sl none zdR v5, .sl none (.int .i64) v6, .sl none zdE v7, .int .i64 v8, .int .i64 v9, .sl none zd5 v10, .sl none zdP v11, .sl none zdR v12, .sl none (.int .i64) v13, .sl none zdE v14, .int .i64 v15], [.int .i64 v16, .int .i64 v17, .sl none zd5 v18, .sl none zdP v19, .sl none zdR v20, .sl none (.int .i64) v21, .sl none zdE v22, .int .i64 v23, .int .i64 v24, .sl none zd5 v25, .sl none zdP v26, .sl none zdR v27, .sl none (.int .i64) v28, .sl none zdE v29, .int .i64 v30, .ptr 2 0, .nilp, .int .i64 v31], [.int .i64 v32, .b v33, .sl (some 0) (.int .u8) v34]], [true]⟩
noncomputable def gateway_New.l2 (n : Nat) (v0 v1 v2 : Int) (v3 : List z5) (v4 : List zP) (v5 : List zR) (v6 : List Int) (v7 : List zE) (v8 v9 : Int) (v10 : List z5) (v11 : List zP) (v12 : List zR) (v13 : List Int) (v14 : List zE) (v15 v16 v17 : Int) (v18 : List z5) (v19 : List zP) (v20 : List zR) (v21 : List Int) (v22 : List zE) (v23 v24 : Int) (v25 : List z5) (v26 : List zP) (v27 : List zR) (v28 : List Int) (v29 : List zE) (v30 v31 v32 : Int) (v33 : Bool) (v34 : List Int) : Option ((Int × ((((((Int × (Int × List ((Int × (Int × (Int × (Int × Int))))))) × ((List ((ByteArray × ByteArray)) × List ((Int × (Int × (Int × (ByteArray × List ((ByteArray × ByteArray)))))))) × (List Int × List ((Int × ByteArray))))) × ((Int × (Int × List ((Int × (Int × (Int × (Int × Int))))))) × ((List ((ByteArray × ByteArray)) × List ((Int × (Int × (Int × (ByteArray × List ((ByteArray × ByteArray)))))))) × (List Int × List ((Int × ByteArray)))))) × Int) × (Unit × (Unit × Int))) × ((Int × (Bool × List Int)) × (Int × (Bool × List Int)))))) := run gateway_New.C (finT gateway_New.C Tryz.f30 true gateway_New.rs gatewaySh) n (todoAt 6 gateway_New.code) ⟨zJ :: .ptr 0 0 :: zJ :: zJ :: zJ :: zJ :: zJ :: .ptr 1 0 :: zJ :: zJ :: zJ :: zJ :: zK (.int .i64 v0 :: zJ :: zJ :: zK (zK (zK []))), [[.int .i64 v1, .int .i64 v2, .sl none zd5 v3, .sl none zdP v4, .sl none zdR v5, .sl none (.int .i64) v6, .sl none zdE v7, .int .i64 v8, .int .i64 v9, .sl none zd5 v10, .sl none zdP v11, .sl none zdR v12, .sl none (.int .i64) v13, .sl none zdE v14, .int .i64 v15], [.int .i64 v16, .int .i64 v17, .sl none zd5 v18, .sl none zdP v19, .sl none zdR v20, .sl none (.int .i64) v21, .sl none zdE v22, .int .i64 v23, .int .i64 v24, .sl none zd5 v25, .sl none zdP v26, .sl none zdR v27, .sl none (.int .i64) v28, .sl none zdE v29, .int .i64 v30, .nilp, .ptr 2 0, .int .i64 v31], [.int .i64 v32, .b v33, .sl (some 0) (.int .u8) v34]], [true]⟩
noncomputable def gateway_New.l3 (n : Nat) (v0 v1 v2 : Int) (v3 : List z5) (v4 : List zP) (v5 : List zR) (v6 : List Int) (v7 : List zE) (v8 v9 : Int) (v10 : List z5) (v11 : List zP) (v12 : List zR) (v13 : List Int) (v14 : List zE) (v15 v16 v17 : Int) (v18 : List z5) (v19 : List zP) (v20 : List zR) (v21 : List Int) (v22 : List zE) (v23 v24 : Int) (v25 : List z5) (v26 : List zP) (v27 : List zR) (v28 : List Int) (v29 : List zE) (v30 v31 v32 : Int) (v33 : Bool) (v34 : List Int) (v35 : Int) (v36 : Bool) (v37 : List Int) : Option ((Int × ((((((Int × (Int × List ((Int × (Int × (Int × (Int × Int))))))) × ((List ((ByteArray × ByteArray)) × List ((Int × (Int × (Int × (ByteArray × List ((ByteArray × ByteArray)))))))) × (List Int × List ((Int × ByteArray))))) × ((Int × (Int × List ((Int × (Int × (Int × (Int × Int))))))) × ((List ((ByteArray × ByteArray)) × List ((Int × (Int × (Int × (ByteArray × List ((ByteArray × ByteArray)))))))) × (List Int × List ((Int × ByteArray)))))) × Int) × (Unit × (Unit × Int))) × ((Int × (Bool × List Int)) × (Int × (Bool × List Int)))))) := run gateway_New.C (finT gateway_New.C Tryz.f30 true gateway_New.rs gatewaySh) n (todoAt 6 gateway_New.code) ⟨zJ :: .ptr 0 0 :: zJ :: zJ :: zJ :: zJ :: zJ :: .ptr 1 0 :: zJ :: zJ :: zJ :: zJ :: zK (.int .i64 v0 :: zJ :: zJ :: zK (zK (zK []))), [[.int .i64 v1, .int .i64 v2, .sl none zd5 v3, .sl none zdP v4, .sl none zdR v5, .sl none (.int .i64) v6, .sl none zdE v7, .int .i64 v8, .int .i64 v9, .sl none zd5 v10, .sl none zdP v11, .sl none zdR v12, .sl none (.int .i64) v13, .sl none zdE v14, .int .i64 v15], [.int .i64 v16, .int .i64 v17, .sl none zd5 v18, .sl none zdP v19, .sl none zdR v20, .sl none (.int .i64) v21, .sl none zdE v22, .int .i64 v23, .int .i64 v24, .sl none zd5 v25, .sl none zdP v26, .sl none zdR v27, .sl none (.int .i64) v28, .sl none zdE v29, .int .i64 v30, .ptr 3 0, .nilp, .int .i64 v31], [.int .i64 v32, .b v33, .sl (some 0) (.int .u8) v34], [.int .i64 v35, .b v36, .sl (some 1) (.int .u8) v37]], [true, true]⟩
noncomputable def gateway_New.l4 (n : Nat) (v0 v1 v2 : Int) (v3 : List z5) (v4 : List zP) (v5 : List zR) (v6 : List Int) (v7 : List zE) (v8 v9 : Int) (v10 : List z5) (v11 : List zP) (v12 : List zR) (v13 : List Int) (v14 : List zE) (v15 v16 v17 : Int) (v18 : List z5) (v19 : List zP) (v20 : List zR) (v21 : List Int) (v22 : List zE) (v23 v24 : Int) (v25 : List z5) (v26 : List zP) (v27 : List zR) (v28 : List Int) (v29 : List zE) (v30 v31 v32 : Int) (v33 : Bool) (v34 : List Int) (v35 : Int) (v36 : Bool) (v37 : List Int) : Option ((Int × ((((((Int × (Int × List ((Int × (Int × (Int × (Int × Int))))))) × ((List ((ByteArray × ByteArray)) × List ((Int × (Int × (Int × (ByteArray × List ((ByteArray × ByteArray)))))))) × (List Int × List ((Int × ByteArray))))) × ((Int × (Int × List ((Int × (Int × (Int × (Int × Int))))))) × ((List ((ByteArray × ByteArray)) × List ((Int × (Int × (Int × (ByteArray × List ((ByteArray × ByteArray)))))))) × (List Int × List ((Int × ByteArray)))))) × Int) × (Unit × (Unit × Int))) × ((Int × (Bool × List Int)) × (Int × (Bool × List Int)))))) := run gateway_New.C (finT gateway_New.C Tryz.f30 true gateway_New.rs gatewaySh) n (todoAt 6 gateway_New.code) ⟨zJ :: .ptr 0 0 :: zJ :: zJ :: zJ :: zJ :: zJ :: .ptr 1 0 :: zJ :: zJ :: zJ :: zJ :: zK (.int .i64 v0 :: zJ :: zJ :: zK (zK (zK []))), [[.int .i64 v1, .int .i64 v2, .sl none zd5 v3, .sl none zdP v4, .sl none zdR v5, .sl none (.int .i64) v6, .sl none zdE v7, .int .i64 v8, .int .i64 v9, .sl none zd5 v10, .sl none zdP v11, .sl none zdR v12, .sl none (.int .i64) v13, .sl none zdE v14, .int .i64 v15], [.int .i64 v16, .int .i64 v17, .sl none zd5 v18, .sl none zdP v19, .sl none zdR v20, .sl none (.int .i64) v21, .sl none zdE v22, .int .i64 v23, .int .i64 v24, .sl none zd5 v25, .sl none zdP v26, .sl none zdR v27, .sl none (.int .i64) v28, .sl none zdE v29, .int .i64 v30, .ptr 2 0, .ptr 3 0, .int .i64 v31], [.int .i64 v32, .b v33, .sl (some 0) (.int .u8) v34], [.int .i64 v35, .b v36, .sl (some 1) (.int .u8) v37]], [true, true]⟩
theorem gateway_New.l0_eq n v0 v1 v2 v3 v4 v5 v6 v7 v8 v9 v10 v11 v12 v13 v14 v15 v16 v17 v18 v19 v20 v21 v22 v23 v24 v25 v26 v27 v28 v29 v30 v31 : gateway_New.l0 (n + 1) v0 v1 v2 v3 v4 v5 v6 v7 v8 v9 v10 v11 v12 v13 v14 v15 v16 v17 v18 v19 v20 v21 v22 v23 v24 v25 v26 v27 v28 v29 v30 v31 =
 (if v0 < 2 then (if v0 = 0 then ((gateway_own.f ((v1, v2, v3), (v4, v5), v6, v7)).bind fun b1 =>
 (if v0 = 0 then ((frame_New.f v15).bind fun b2 =>
 (if v0 = 0 then (gateway_New.l1 n (IntKind.wrap .i64 (v0 + 1)) v1 v2 v3 v4 v5 v6 v7 v8 v9 v10 v11 v12 v13 v14 v15 b1.1.1 b1.1.2.1 b1.1.2.2 b1.2.1.1 b1.2.1.2 b1.2.2.1 b1.2.2.2 v23 v24 v25 v26 v27 v28 v29 v30 v31 b2.2.1 (decide (b2.2.2.1 = true)) b2.2.2.2)
 else (if v0 = (↑1 : Int) then (gateway_New.l2 n (IntKind.wrap .i64 (v0 + 1)) v1 v2 v3 v4 v5 v6 v7 v8 v9 v10 v11 v12 v13 v14 v15 b1.1.1 b1.1.2.1 b1.1.2.2 b1.2.1.1 b1.2.1.2 b1.2.2.1 b1.2.2.2 v23 v24 v25 v26 v27 v28 v29 v30 v31 b2.2.1 (decide (b2.2.2.1 = true)) b2.2.2.2)
 else none)))
 else (if v0 = (↑1 : Int) then ((frame_New.f v15).bind fun b3 =>
 (if v0 = 0 then (gateway_New.l1 n (IntKind.wrap .i64 (v0 + 1)) v1 v2 v3 v4 v5 v6 v7 v8 v9 v10 v11 v12 v13 v14 v15 v16 v17 v18 v19 v20 v21 v22 b1.1.1 b1.1.2.1 b1.1.2.2 b1.2.1.1 b1.2.1.2 b1.2.2.1 b1.2.2.2 v30 v31 b3.2.1 (decide (b3.2.2.1 = true)) b3.2.2.2)
 else (if v0 = (↑1 : Int) then (gateway_New.l2 n (IntKind.wrap .i64 (v0 + 1)) v1 v2 v3 v4 v5 v6 v7 v8 v9 v10 v11 v12 v13 v14 v15 v16 v17 v18 v19 v20 v21 v22 b1.1.1 b1.1.2.1 b1.1.2.2 b1.2.1.1 b1.2.1.2 b1.2.2.1 b1.2.2.2 v30 v31 b3.2.1 (decide (b3.2.2.1 = true)) b3.2.2.2)
 else none)))
 else none)))
 else (if v0 = (↑1 : Int) then ((gateway_own.f ((v8, v9, v10), (v11, v12), v13, v14)).bind fun b4 =>
 (if v0 = 0 then ((frame_New.f v15).bind fun b5 =>
 (if v0 = 0 then (gateway_New.l1 n (IntKind.wrap .i64 (v0 + 1)) v1 v2 v3 v4 v5 v6 v7 v8 v9 v10 v11 v12 v13 v14 v15 b4.1.1 b4.1.2.1 b4.1.2.2 b4.2.1.1 b4.2.1.2 b4.2.2.1 b4.2.2.2 v23 v24 v25 v26 v27 v28 v29 v30 v31 b5.2.1 (decide (b5.2.2.1 = true)) b5.2.2.2)
 else (if v0 = (↑1 : Int) then (gateway_New.l2 n (IntKind.wrap .i64 (v0 + 1)) v1 v2 v3 v4 v5 v6 v7 v8 v9 v10 v11 v12 v13 v14 v15 b4.1.1 b4.1.2.1 b4.1.2.2 b4.2.1.1 b4.2.1.2 b4.2.2.1 b4.2.2.2 v23 v24 v25 v26 v27 v28 v29 v30 v31 b5.2.1 (decide (b5.2.2.1 = true)) b5.2.2.2)
 else none)))
 else (if v0 = (↑1 : Int) then ((frame_New.f v15).bind fun b6 =>
 (if v0 = 0 then (gateway_New.l1 n (IntKind.wrap .i64 (v0 + 1)) v1 v2 v3 v4 v5 v6 v7 v8 v9 v10 v11 v12 v13 v14 v15 v16 v17 v18 v19 v20 v21 v22 b4.1.1 b4.1.2.1 b4.1.2.2 b4.2.1.1 b4.2.1.2 b4.2.2.1 b4.2.2.2 v30 v31 b6.2.1 (decide (b6.2.2.1 = true)) b6.2.2.2)
 else (if v0 = (↑1 : Int) then (gateway_New.l2 n (IntKind.wrap .i64 (v0 + 1)) v1 v2 v3 v4 v5 v6 v7 v8 v9 v10 v11 v12 v13 v14 v15 v16 v17 v18 v19 v20 v21 v22 b4.1.1 b4.1.2.1 b4.1.2.2 b4.2.1.1 b4.2.1.2 b4.2.2.1 b4.2.2.2 v30 v31 b6.2.1 (decide (b6.2.2.1 = true)) b6.2.2.2)
 else none)))
 else none)))
 else none))
 else none) := by kernel_rfl
theorem gateway_New.l1_eq n v0 v1 v2 v3 v4 v5 v6 v7 v8 v9 v10 v11 v12 v13 v14 v15 v16 v17 v18 v19 v20 v21 v22 v23 v24 v25 v26 v27 v28 v29 v30 v31 v32 v33 v34 : gateway_New.l1 (n + 1) v0 v1 v2 v3 v4 v5 v6 v7 v8 v9 v10 v11 v12 v13 v14 v15 v16 v17 v18 v19 v20 v21 v22 v23 v24 v25 v26 v27 v28 v29 v30 v31 v32 v33 v34 =
 (if v0 < 2 then (if v0 = 0 then ((gateway_own.f ((v1, v2, v3), (v4, v5), v6, v7)).bind fun b7 =>
 (if v0 = 0 then ((frame_New.f v15).bind fun b8 =>
 (if v0 = 0 then (gateway_New.l3 n (IntKind.wrap .i64 (v0 + 1)) v1 v2 v3 v4 v5 v6 v7 v8 v9 v10 v11 v12 v13 v14 v15 b7.1.1 b7.1.2.1 b7.1.2.2 b7.2.1.1 b7.2.1.2 b7.2.2.1 b7.2.2.2 v23 v24 v25 v26 v27 v28 v29 v30 v31 v32 (decide (v33 = true)) v34 b8.2.1 (decide (b8.2.2.1 = true)) b8.2.2.2)
 else (if v0 = (↑1 : Int) then (gateway_New.l4 n (IntKind.wrap .i64 (v0 + 1)) v1 v2 v3 v4 v5 v6 v7 v8 v9 v10 v11 v12 v13 v14 v15 b7.1.1 b7.1.2.1 b7.1.2.2 b7.2.1.1 b7.2.1.2 b7.2.2.1 b7.2.2.2 v23 v24 v25 v26 v27 v28 v29 v30 v31 v32 (decide (v33 = true)) v34 b8.2.1 (decide (b8.2.2.1 = true)) b8.2.2.2)
 else none)))
 else (if v0 = (↑1 : Int) then ((frame_New.f v15).bind fun b9 =>
 (if v0 = 0 then (gateway_New.l3 n (IntKind.wrap .i64 (v0 + 1)) v1 v2 v3 v4 v5 v6 v7 v8 v9 v10 v11 v12 v13 v14 v15 v16 v17 v18 v19 v20 v21 v22 b7.1.1 b7.1.2.1 b7.1.2.2 b7.2.1.1 b7.2.1.2 b7.2.2.1 b7.2.2.2 v30 v31 v32 (decide (v33 = true)) v34 b9.2.1 (decide (b9.2.2.1 = true)) b9.2.2.2)
 else (if v0 = (↑1 : Int) then (gateway_New.l4 n (IntKind.wrap .i64 (v0 + 1)) v1 v2 v3 v4 v5 v6 v7 v8 v9 v10 v11 v12 v13 v14 v15 v16 v17 v18 v19 v20 v21 v22 b7.1.1 b7.1.2.1 b7.1.2.2 b7.2.1.1 b7.2.1.2 b7.2.2.1 b7.2.2.2 v30 v31 v32 (decide (v33 = true)) v34 b9.2.1 (decide (b9.2.2.1 = true)) b9.2.2.2)
 else none)))
 else none)))
 else (if v0 = (↑1 : Int) then ((gateway_own.f ((v8, v9, v10), (v11, v12), v13, v14)).bind fun b10 =>
 (if v0 = 0 then ((frame_New.f v15).bind fun b11 =>
 (if v0 = 0 then (gateway_New.l3 n (IntKind.wrap .i64 (v0 + 1)) v1 v2 v3 v4 v5 v6 v7 v8 v9 v10 v11 v12 v13 v14 v15 b10.1.1 b10.1.2.1 b10.1.2.2 b10.2.1.1 b10.2.1.2 b10.2.2.1 b10.2.2.2 v23 v24 v25 v26 v27 v28 v29 v30 v31 v32 (decide (v33 = true)) v34 b11.2.1 (decide (b11.2.2.1 = true)) b11.2.2.2)
 else (if v0 = (↑1 : Int) then (gateway_New.l4 n (IntKind.wrap .i64 (v0 + 1)) v1 v2 v3 v4 v5 v6 v7 v8 v9 v10 v11 v12 v13 v14 v15 b10.1.1 b10.1.2.1 b10.1.2.2 b10.2.1.1 b10.2.1.2 b10.2.2.1 b10.2.2.2 v23 v24 v25 v26 v27 v28 v29 v30 v31 v32 (decide (v33 = true)) v34 b11.2.1 (decide (b11.2.2.1 = true)) b11.2.2.2)
 else none)))
 else (if v0 = (↑1 : Int) then ((frame_New.f v15).bind fun b12 =>
 (if v0 = 0 then (gateway_New.l3 n (IntKind.wrap .i64 (v0 + 1)) v1 v2 v3 v4 v5 v6 v7 v8 v9 v10 v11 v12 v13 v14 v15 v16 v17 v18 v19 v20 v21 v22 b10.1.1 b10.1.2.1 b10.1.2.2 b10.2.1.1 b10.2.1.2 b10.2.2.1 b10.2.2.2 v30 v31 v32 (decide (v33 = true)) v34 b12.2.1 (decide (b12.2.2.1 = true)) b12.2.2.2)
 else (if v0 = (↑1 : Int) then (gateway_New.l4 n (IntKind.wrap .i64 (v0 + 1)) v1 v2 v3 v4 v5 v6 v7 v8 v9 v10 v11 v12 v13 v14 v15 v16 v17 v18 v19 v20 v21 v22 b10.1.1 b10.1.2.1 b10.1.2.2 b10.2.1.1 b10.2.1.2 b10.2.2.1 b10.2.2.2 v30 v31 v32 (decide (v33 = true)) v34 b12.2.1 (decide (b12.2.2.1 = true)) b12.2.2.2)
 else none)))
 else none)))
 else none))
 else none) := by kernel_rfl
theorem gateway_New.l4_eq n v0 v1 v2 v3 v4 v5 v6 v7 v8 v9 v10 v11 v12 v13 v14 v15 v16 v17 v18 v19 v20 v21 v22 v23 v24 v25 v26 v27 v28 v29 v30 v31 v32 v33 v34 v35 v36 v37 : gateway_New.l4 (n + 1) v0 v1 v2 v3 v4 v5 v6 v7 v8 v9 v10 v11 v12 v13 v14 v15 v16 v17 v18 v19 v20 v21 v22 v23 v24 v25 v26 v27 v28 v29 v30 v31 v32 v33 v34 v35 v36 v37 =
 (if v0 < 2 then (if v0 = 0 then ((gateway_own.f ((v1, v2, v3), (v4, v5), v6, v7)).bind fun b13 =>
 (if v0 = 0 then ((frame_New.f v15).bind fun b14 =>
 (if v0 = 0 then none
 else (if v0 = (↑1 : Int) then none
 else none)))
 else (if v0 = (↑1 : Int) then ((frame_New.f v15).bind fun b15 =>
 (if v0 = 0 then none
 else (if v0 = (↑1 : Int) then none
 else none)))
 else none)))
 else (if v0 = (↑1 : Int) then ((gateway_own.f ((v8, v9, v10), (v11, v12), v13, v14)).bind fun b16 =>
 (if v0 = 0 then ((frame_New.f v15).bind fun b17 =>
 (if v0 = 0 then none
 else (if v0 = (↑1 : Int) then none
 else none)))
 else (if v0 = (↑1 : Int) then ((frame_New.f v15).bind fun b18 =>
 (if v0 = 0 then none
 else (if v0 = (↑1 : Int) then none
 else none)))
 else none)))
 else none))
 else (some ((0, (((((v16, v17, v18), (v19, v20), v21, v22), (v23, v24, v25), (v26, v27), v28, v29), v30), (), (), v31), (v32, decide (v33 = true), v34), v35, decide (v36 = true), v37)))) := by kernel_rfl
theorem gateway_New.eq (n : Nat) (a0 a1 : Int) (a2 : List z5) (a3 : List zP) (a4 : List zR) (a5 : List Int) (a6 : List zE) (a7 a8 : Int) (a9 : List z5) (a10 : List zP) (a11 : List zR) (a12 : List Int) (a13 : List zE) (a14 : Int) : callN gateway_New.C Tryz.f30 gateway_New.code gateway_New.sg gateway_New.rs gatewaySh n ((((a0, (a1, a2)), ((a3, a4), (a5, a6))), ((a7, (a8, a9)), ((a10, a11), (a12, a13)))), a14) =
 ((route_Check.f ((((a0, a1, a2), (a3, a4), a5, a6), (a7, a8, a9), (a10, a11), a12, a13), a14)).bind fun b0 =>
 (if ¬b0.1 = 0 then none
 else (gateway_New.l0 n 0 a0 a1 a2 a3 a4 a5 a6 a7 a8 a9 a10 a11 a12 a13 a14 a0 a1 a2 a3 a4 a5 a6 a7 a8 a9 a10 a11 a12 a13 a14 0))) := by kernel_rfl
noncomputable def gateway_New.f (a : El (sgTy gateway_New.sg)) : Option (El (.pair gateway_New.rs.ty (objTy gatewaySh))) := callN gateway_New.C Tryz.f30 gateway_New.code gateway_New.sg gateway_New.rs gatewaySh 5 a
noncomputable def gateway_New.s : ConS := objN 30 gateway_New.sg [.v (.int .i64)] gatewaySh gateway_New.f
theorem gateway_New.ok : CtxOk Tryz.prog gateway_New.C := ⟨AllOk.all (show AllOk gateway_New.C.G from ⟨route_Check.con, gateway_own.con, trivial⟩), fun c hc => by
 rw [List.mem_singleton.1 (show c ∈ [frame_New.s] from hc)]; exact frame_New.sok⟩
theorem gateway_New.sok : ConSOk Tryz.prog gateway_New.s := objN_ok (C := gateway_New.C) (code := gateway_New.code) (show TabOk Tryz.prog gateway_New.C.T from tabOk) gateway_New.ok mixed (by kernel_rfl) (by kernel_rfl) (by kernel_rfl) (by decide) (by decide) fun a y h => ⟨5, h⟩
abbrev GW := (CFG × Unit × Unit × Int) × (Int × Bool × List Int) × Int × Bool × List Int
theorem gateway_New (c : CFG) (h : greatC c = false) (ok : CfgOk c) : gateway_New.f c = some ((0, ((c, (), (), 0), (c.2, false, []), c.2, false, [])) : Int × GW) := by
 have hc := route_Check c h ok
 obtain ⟨g1, g2, g3, g4⟩ := greatC_no h
 obtain ⟨⟨⟨⟨a0, a1, a2⟩, ⟨a3, a4⟩, a5, a6⟩, ⟨a7, a8, a9⟩, ⟨a10, a11⟩, a12, a13⟩, a14⟩ := c
 have k1 := ok.lo
 have k2 := ok.hi
 dsimp only at g1 g2 g3 g4 k1 k2
 have o1 := gateway_own _ (okSide_of g1 g3)
 have o2 := gateway_own _ (okSide_of g2 g4)
 have nw := frame_New k1 k2
 refine (gateway_New.eq 5 a0 a1 a2 a3 a4 a5 a6 a7 a8 a9 a10 a11 a12 a13 a14).trans ?_
 rw [hc, Option.bind_some, if_neg (not_not_intro rfl), gateway_New.l0_eq]
 simp (decide := true) only [lit3, if_true, if_false]
 rw [o1, Option.bind_some, nw, Option.bind_some, gateway_New.l1_eq]
 simp (decide := true) only [lit4, if_true, if_false]
 rw [o2, Option.bind_some, nw, Option.bind_some, gateway_New.l4_eq]
 simp (decide := true) only [if_false]
 rfl
@[reducible] def gateway_Gateway_payload.sg : List Shp := [.v (.int .i64), .v (.str)]
@[reducible] def gateway_Gateway_payload.rs : Rs := .one (.a zdO)
@[reducible] noncomputable def gateway_Gateway_payload.code : Code := Tryz.f74.body.getD .skip
noncomputable def gateway_Gateway_payload.C : Ctx := ⟨tab, [route_Outcome.c, frame_Put.c], [], ⟨[], [(3000000, [(3, .unit)])]⟩⟩
theorem gateway_Gateway_payload.eq (n : Nat) (a0 a1 : Int) (a2 : List z5) (a3 : List zP) (a4 : List zR) (a5 : List Int) (a6 : List zE) (a7 a8 : Int) (a9 : List z5) (a10 : List zP) (a11 : List zR) (a12 : List Int) (a13 : List zE) (a14 a15 a16 : Int) (a17 : Bool) (a18 : List Int) (a19 : Int) (a20 : Bool) (a21 : List Int) (a22 : Int) (a23 : ByteArray) : callM gateway_Gateway_payload.C Tryz.f74 gateway_Gateway_payload.code gateway_Gateway_payload.sg gateway_Gateway_payload.rs gatewaySh n ((((((a0, (a1, a2)), ((a3, a4), (a5, a6))), ((a7, (a8, a9)), ((a10, a11), (a12, a13)))), a14), ((), ((), a15))), ((a16, (a17, a18)), (a19, (a20, a21)))) (a22, a23) =
 ((route_Outcome.f (((((a0, a1, a2), (a3, a4), a5, a6), (a7, a8, a9), (a10, a11), a12, a13), a14), a22, a23)).bind fun b0 =>
 (if b0.1 = 3 then (some (((a22, b0.1, ByteArray.mk #[], IntKind.wrap .i64 (a15 + 1)), (((((a0, a1, a2), (a3, a4), a5, a6), (a7, a8, a9), (a10, a11), a12, a13), a14), (), (), IntKind.wrap .i64 (a15 + 1)), (a16, decide (a17 = true), a18), a19, decide (a20 = true), a21)))
 else (if b0.1 = 1 then ((frame_Put.f b0.2).bind fun b1 =>
 (some (((IntKind.wrap .i64 (1 - a22), b0.1, b1.1, a15), (((((a0, a1, a2), (a3, a4), a5, a6), (a7, a8, a9), (a10, a11), a12, a13), a14), (), (), a15), (a16, decide (a17 = true), a18), a19, decide (a20 = true), a21))))
 else ((frame_Put.f b0.2).bind fun b2 =>
 (some (((a22, b0.1, b2.1, a15), (((((a0, a1, a2), (a3, a4), a5, a6), (a7, a8, a9), (a10, a11), a12, a13), a14), (), (), a15), (a16, decide (a17 = true), a18), a19, decide (a20 = true), a21))))))) := by kernel_rfl
noncomputable def gateway_Gateway_payload.f (x : El (objTy gatewaySh)) (a : El (sgTy gateway_Gateway_payload.sg)) : Option (El (.pair gateway_Gateway_payload.rs.ty (objTy gatewaySh))) := callM gateway_Gateway_payload.C Tryz.f74 gateway_Gateway_payload.code gateway_Gateway_payload.sg gateway_Gateway_payload.rs gatewaySh 0 x a
noncomputable def gateway_Gateway_payload.s : ConS := objM 74 gateway_Gateway_payload.sg gateway_Gateway_payload.rs gatewaySh gateway_Gateway_payload.f
theorem gateway_Gateway_payload.sok : ConSOk Tryz.prog gateway_Gateway_payload.s := objM_ok (C := gateway_Gateway_payload.C) (code := gateway_Gateway_payload.code) (show TabOk Tryz.prog gateway_Gateway_payload.C.T from tabOk) ⟨AllOk.all (show AllOk gateway_Gateway_payload.C.G from ⟨route_Outcome.con, frame_Put.con, trivial⟩), fun c hc => absurd (show c ∈ ([] : List ConS) from hc) (by simp)⟩ mixed (by kernel_rfl) (by kernel_rfl) (by kernel_rfl) (by decide) fun x a y h => ⟨0, h⟩
noncomputable def fpB (b : ByteArray) : ByteArray := ((frame_Put.f b).getD (ByteArray.mk #[], 0)).1
theorem frame_Put_some (b : ByteArray) : ∃ e, frame_Put.f b = some (fpB b, e) := by
 have : ∃ y, frame_Put.f b = some y := by
  simp only [frame_Put.f]
  split
  ·exact ⟨_, rfl⟩
  split
  ·exact ⟨_, rfl⟩
  ·unfold scat
   rw [if_pos (by rw [bytesOf_size]; simp only [List.length_cons, List.length_nil]; omega)]
   exact ⟨_, rfl⟩
 obtain ⟨y, hy⟩ := this
 refine ⟨y.2, ?_⟩
 unfold fpB
 rw [hy]; rfl
noncomputable def outO (g : CFG) (link : Int) (p : ByteArray) : Int × Int × ByteArray :=
 let y := (route_Outcome.f (g, link, p)).getD (0, ByteArray.mk #[])
 (if y.1 = 1 then IntKind.wrap .i64 (1 - link) else link, y.1, if y.1 = 3 then ByteArray.mk #[] else fpB y.2)
theorem payload_some (g : CFG) (d m0 : Int) (b0 : Bool) (l0 : List Int) (m1 : Int) (b1 : Bool) (l1 : List Int) (link : Int) (p : ByteArray) (h : ∃ y, route_Outcome.f (g, link, p) = some y) :
  ∃ d', gateway_Gateway_payload.f ((g, (), (), d), (m0, b0, l0), m1, b1, l1) (link, p) = some ((((outO g link p).1, (outO g link p).2.1, (outO g link p).2.2, d'), ((g, (), (), d'), (m0, b0, l0), m1, b1, l1)) : (Int × Int × ByteArray × Int) × GW) := by
 obtain ⟨⟨k, b⟩, hy⟩ := h
 obtain ⟨e, he⟩ := frame_Put_some b
 have ho : outO g link p = (if k = 1 then IntKind.wrap .i64 (1 - link) else link, k, if k = 3 then ByteArray.mk #[] else fpB b) := by
  unfold outO
  rw [hy]; rfl
 rw [ho]
 obtain ⟨⟨⟨⟨a0, a1, a2⟩, ⟨a3, a4⟩, a5, a6⟩, ⟨a7, a8, a9⟩, ⟨a10, a11⟩, a12, a13⟩, a14⟩ := g
 have ee := gateway_Gateway_payload.eq 0 a0 a1 a2 a3 a4 a5 a6 a7 a8 a9 a10 a11 a12 a13 a14 d m0 b0 l0 m1 b1 l1 link p
 rw [hy, Option.bind_some] at ee
 simp only [Bool.decide_eq_true] at ee
 by_cases c3 : k = 3
 ·refine ⟨IntKind.wrap .i64 (d + 1), ee.trans ?_⟩
  rw [if_pos c3]
  subst c3
  rfl
 ·by_cases c1 : k = 1
  ·refine ⟨d, ee.trans ?_⟩
   rw [if_neg c3, if_pos c1, he, Option.bind_some]
   subst c1
   rfl
  ·refine ⟨d, ee.trans ?_⟩
   rw [if_neg c3, if_neg c1, he, Option.bind_some]
   rw [if_neg c1, if_neg c3]
def z0 (o : Int × Int × ByteArray × Int) : Int × Int × ByteArray × Int := (o.1, o.2.1, o.2.2.1, 0)
noncomputable def outZ (g : CFG) (link : Int) : Option ByteArray → Int × Int × ByteArray × Int
 | none => (link, 4, ByteArray.mk #[], 0)
 | some p => ((outO g link p).1, (outO g link p).2.1, (outO g link p).2.2, 0)
theorem outZ_some (g : CFG) (link : Int) (p : ByteArray) : outZ g link (some p) = ((outO g link p).1, (outO g link p).2.1, (outO g link p).2.2, 0) := rfl
@[reducible] def gateway_Gateway_Feed.sg : List Shp := [.a zdE]
@[reducible] def gateway_Gateway_Feed.rs : Rs := .one (.v (.sl zdO))
@[reducible] noncomputable def gateway_Gateway_Feed.code : Code := Tryz.f31.body.getD .skip
noncomputable def gateway_Gateway_Feed.C : Ctx := ⟨tab, [gateway_is.c], [frame_Framer_Feed.s, gateway_Gateway_payload.s], ⟨[(6, [0, 3, 5, 7, 27, 28, 29], 4)], [(1000006, [(5, zdO)]), (3000000, [(3, .unit)])]⟩⟩
noncomputable def gateway_Gateway_Feed.l0 (n : Nat) (v0 : List zO) (v1 : Bool) (v2 : List ByteArray) (v3 v4 v5 v6 : Int) (v7 : List z5) (v8 : List zP) (v9 : List zR) (v10 : List Int) (v11 : List zE) (v12 v13 : Int) (v14 : List z5) (v15 : List zP) (v16 : List zR) (v17 : List Int) (v18 : List zE) (v19 v20 v21 : Int) (v22 : Bool) (v23 : List Int) (v24 : Int) (v25 : Bool) (v26 : List Int) (v27 : Int) (v28 : ByteArray) : Option ((List ((Int × (Int × (ByteArray × Int)))) × ((((((Int × (Int × List ((Int × (Int × (Int × (Int × Int))))))) × ((List ((ByteArray × ByteArray)) × List ((Int × (Int × (Int × (ByteArray × List ((ByteArray × ByteArray)))))))) × (List Int × List ((Int × ByteArray))))) × ((Int × (Int × List ((Int × (Int × (Int × (Int × Int))))))) × ((List ((ByteArray × ByteArray)) × List ((Int × (Int × (Int × (ByteArray × List ((ByteArray × ByteArray)))))))) × (List Int × List ((Int × ByteArray)))))) × Int) × (Unit × (Unit × Int))) × ((Int × (Bool × List Int)) × (Int × (Bool × List Int)))))) := run gateway_Gateway_Feed.C (finT gateway_Gateway_Feed.C Tryz.f31 false gateway_Gateway_Feed.rs gatewaySh) n (todoAt 6 gateway_Gateway_Feed.code) ⟨.ptr 0 0 :: zJ :: zJ :: .ptr 3 0 :: zJ :: .sl (some 2) zdO v0 :: zJ :: .b v1 :: zJ :: zJ :: zJ :: zK (zK (.sl none (.str) v2 :: .int .i64 v3 :: .int .i64 v4 :: zK (zK (zK [])))), [[.int .i64 v5, .int .i64 v6, .sl none zd5 v7, .sl none zdP v8, .sl none zdR v9, .sl none (.int .i64) v10, .sl none zdE v11, .int .i64 v12, .int .i64 v13, .sl none zd5 v14, .sl none zdP v15, .sl none zdR v16, .sl none (.int .i64) v17, .sl none zdE v18, .int .i64 v19, .ptr 1 0, .ptr 2 0, .int .i64 v20], [.int .i64 v21, .b v22, .sl (some 0) (.int .u8) v23], [.int .i64 v24, .b v25, .sl (some 1) (.int .u8) v26], [.int .i64 v27, .str v28]], [true, true, true]⟩
theorem gateway_Gateway_Feed.l0_eq n v0 v1 v2 v3 v4 v5 v6 v7 v8 v9 v10 v11 v12 v13 v14 v15 v16 v17 v18 v19 v20 v21 v22 v23 v24 v25 v26 v27 v28 : gateway_Gateway_Feed.l0 (n + 1) v0 v1 v2 v3 v4 v5 v6 v7 v8 v9 v10 v11 v12 v13 v14 v15 v16 v17 v18 v19 v20 v21 v22 v23 v24 v25 v26 v27 v28 =
 (if v4 < v3 then ((lget v2 v4).bind fun b3 =>
 ((gateway_Gateway_payload.f ((((((v5, v6, v7), (v8, v9), v10, v11), (v12, v13, v14), (v15, v16), v17, v18), v19), (), (), v20), (v21, decide (v22 = true), v23), v24, decide (v25 = true), v26) (v27, b3)).bind fun b4 =>
 ((lcat 40 v0 [b4.1]).bind fun b5 =>
 (gateway_Gateway_Feed.l0 n b5 (decide (v1 = true)) v2 v3 (IntKind.wrap .i64 (v4 + 1)) b4.2.1.1.1.1.1.1 b4.2.1.1.1.1.1.2.1 b4.2.1.1.1.1.1.2.2 b4.2.1.1.1.1.2.1.1 b4.2.1.1.1.1.2.1.2 b4.2.1.1.1.1.2.2.1 b4.2.1.1.1.1.2.2.2 b4.2.1.1.1.2.1.1 b4.2.1.1.1.2.1.2.1 b4.2.1.1.1.2.1.2.2 b4.2.1.1.1.2.2.1.1 b4.2.1.1.1.2.2.1.2 b4.2.1.1.1.2.2.2.1 b4.2.1.1.1.2.2.2.2 b4.2.1.1.2 b4.2.1.2.2.2 b4.2.2.1.1 (decide (b4.2.2.1.2.1 = true)) b4.2.2.1.2.2 b4.2.2.2.1 (decide (b4.2.2.2.2.1 = true)) b4.2.2.2.2.2 v27 v28))))
 else (if v1 = true then ((lcat 40 v0 [(v27, 4, ByteArray.mk #[], v20)]).bind fun b6 =>
 (some ((b6, (((((v5, v6, v7), (v8, v9), v10, v11), (v12, v13, v14), (v15, v16), v17, v18), v19), (), (), v20), (v21, decide (v22 = true), v23), v24, decide (v25 = true), v26))))
 else (some ((v0, (((((v5, v6, v7), (v8, v9), v10, v11), (v12, v13, v14), (v15, v16), v17, v18), v19), (), (), v20), (v21, decide (v22 = true), v23), v24, decide (v25 = true), v26))))) := by kernel_rfl
theorem gateway_Gateway_Feed.eq (n : Nat) (a0 a1 : Int) (a2 : List z5) (a3 : List zP) (a4 : List zR) (a5 : List Int) (a6 : List zE) (a7 a8 : Int) (a9 : List z5) (a10 : List zP) (a11 : List zR) (a12 : List Int) (a13 : List zE) (a14 a15 a16 : Int) (a17 : Bool) (a18 : List Int) (a19 : Int) (a20 : Bool) (a21 : List Int) (a22 : Int) (a23 : ByteArray) : callM gateway_Gateway_Feed.C Tryz.f31 gateway_Gateway_Feed.code gateway_Gateway_Feed.sg gateway_Gateway_Feed.rs gatewaySh n ((((((a0, (a1, a2)), ((a3, a4), (a5, a6))), ((a7, (a8, a9)), ((a10, a11), (a12, a13)))), a14), ((), ((), a15))), ((a16, (a17, a18)), (a19, (a20, a21)))) (a22, a23) =
 ((gateway_is.f a22).bind fun b0 =>
 (if ¬b0 = true then (some (([], (((((a0, a1, a2), (a3, a4), a5, a6), (a7, a8, a9), (a10, a11), a12, a13), a14), (), (), a15), (a16, decide (a17 = true), a18), a19, decide (a20 = true), a21)))
 else (if a22 = 0 then ((frame_Framer_Feed.f (a16, decide (a17 = true), a18) a23).bind fun b1 =>
 (gateway_Gateway_Feed.l0 n [] (decide (b1.1.2 = true)) b1.1.1 (b1.1.1.length : Int) 0 a0 a1 a2 a3 a4 a5 a6 a7 a8 a9 a10 a11 a12 a13 a14 a15 b1.2.1 (decide (b1.2.2.1 = true)) b1.2.2.2 a19 (decide (a20 = true)) a21 a22 a23))
 else (if a22 = (↑1 : Int) then ((frame_Framer_Feed.f (a19, decide (a20 = true), a21) a23).bind fun b2 =>
 (gateway_Gateway_Feed.l0 n [] (decide (b2.1.2 = true)) b2.1.1 (b2.1.1.length : Int) 0 a0 a1 a2 a3 a4 a5 a6 a7 a8 a9 a10 a11 a12 a13 a14 a15 a16 (decide (a17 = true)) a18 b2.2.1 (decide (b2.2.2.1 = true)) b2.2.2.2 a22 a23))
 else none)))) := by kernel_rfl
theorem gateway_Feed_l (a0 a1 : Int) (a2 : List S5) (a3 : List PB) (a4 : List RU) (a5 : List Int) (a6 : List V) (a7 a8 : Int) (a9 : List S5) (a10 : List PB) (a11 : List RU) (a12 : List Int) (a13 : List V) (a14 : Int) (m0 : Int) (b0 : Bool) (l0 : List Int) (m1 : Int) (b1 : Bool) (l1 : List Int) (link : Int) (ch : ByteArray) (dd : Bool)
  (ps : List ByteArray) (hps : ps.length ≤ 1000000) (hout : ∀ p ∈ ps, ∃ y, route_Outcome.f (((((a0, a1, a2), (a3, a4), a5, a6), (a7, a8, a9), (a10, a11), a12, a13), a14), link, p) = some y) :
  ∀ (m : List ByteArray) (k i : Nat) (outs : List (Int × Int × ByteArray × Int)) (d : Int), ps.drop i = m → m.length < k → outs.length + m.length ≤ 1000000 →
  ∃ os d', gateway_Gateway_Feed.l0 k outs dd ps (ps.length : Int) (i : Int) a0 a1 a2 a3 a4 a5 a6 a7 a8 a9 a10 a11 a12 a13 a14 d m0 b0 l0 m1 b1 l1 link ch = some (((outs ++ os), (((((a0, a1, a2), (a3, a4), a5, a6), (a7, a8, a9), (a10, a11), a12, a13), a14), (), (), d'), (m0, b0, l0), m1, b1, l1) : List (Int × Int × ByteArray × Int) × GW) ∧
   os.map z0 = (m.map some ++ if dd = true then [none] else []).map (outZ ((((a0, a1, a2), (a3, a4), a5, a6), (a7, a8, a9), (a10, a11), a12, a13), a14) link)
 | [], k, i, outs, d, hd, hk, ho => by
  obtain ⟨k, rfl⟩ : ∃ m, k = m + 1 := ⟨k - 1, by omega⟩
  have := dropn hd
  rw [gateway_Gateway_Feed.l0_eq, if_neg (by omega)]
  simp only [Bool.decide_eq_true]
  cases dd with
  | true =>
   rw [if_pos rfl, lcat_ok _ _ _ (by rw [List.length_singleton]; simp at ho; omega), Option.bind_some]
   exact ⟨[(link, 4, ByteArray.mk #[], d)], d, rfl, rfl⟩
  | false =>
   rw [if_neg (by simp)]
   exact ⟨[], d, by rw [List.append_nil], rfl⟩
 | p :: m, k, i, outs, d, hd, hk, ho => by
  obtain ⟨k, rfl⟩ : ∃ m, k = m + 1 := ⟨k - 1, by omega⟩
  obtain ⟨h1, h2, h3, h4⟩ := dropc hd
  have hk' : m.length < k := by simp at hk; omega
  have hp := hout p (by have := List.drop_subset i ps (a := p); rw [hd] at this; exact this (List.mem_cons_self ..))
  rw [List.length_cons] at ho
  rw [gateway_Gateway_Feed.l0_eq, if_pos (by omega), h4, Option.bind_some]
  simp only [Bool.decide_eq_true]
  obtain ⟨d1, e1⟩ := payload_some ((((a0, a1, a2), (a3, a4), a5, a6), (a7, a8, a9), (a10, a11), a12, a13), a14) d m0 b0 l0 m1 b1 l1 link p hp
  obtain ⟨o, ho⟩ : ∃ o, o = outO ((((a0, a1, a2), (a3, a4), a5, a6), (a7, a8, a9), (a10, a11), a12, a13), a14) link p := ⟨_, rfl⟩
  rw [← ho] at e1
  rw [e1, Option.bind_some, lcat_ok _ _ _ (by rw [List.length_singleton]; omega), Option.bind_some, wrap_succ (by omega)]
  dsimp only
  obtain ⟨os, d', e2, e3⟩ := gateway_Feed_l a0 a1 a2 a3 a4 a5 a6 a7 a8 a9 a10 a11 a12 a13 a14 m0 b0 l0 m1 b1 l1 link ch dd ps hps hout m k (i + 1) (outs ++ [(o.1, o.2.1, o.2.2, d1)]) d1 h2 hk' (by rw [List.length_append, List.length_singleton]; omega)
  refine ⟨(o.1, o.2.1, o.2.2, d1) :: os, d', ?_, ?_⟩
  ·rw [List.append_assoc] at e2
   exact e2
  ·rw [List.map_cons, List.map_cons, List.cons_append, List.map_cons, outZ_some, ← ho, ← e3]; rfl
noncomputable def gateway_Gateway_Feed.f (x : El (objTy gatewaySh)) (a : El (sgTy gateway_Gateway_Feed.sg)) : Option (El (.pair gateway_Gateway_Feed.rs.ty (objTy gatewaySh))) := callM gateway_Gateway_Feed.C Tryz.f31 gateway_Gateway_Feed.code gateway_Gateway_Feed.sg gateway_Gateway_Feed.rs gatewaySh 10000 x a
noncomputable def gateway_Gateway_Feed.s : ConS := objM 31 gateway_Gateway_Feed.sg gateway_Gateway_Feed.rs gatewaySh gateway_Gateway_Feed.f
theorem gateway_Gateway_Feed.ok : CtxOk Tryz.prog gateway_Gateway_Feed.C := ⟨AllOk.all (show AllOk gateway_Gateway_Feed.C.G from ⟨gateway_is.con, trivial⟩), fun c hc => by
 rcases List.mem_cons.1 (show c ∈ [frame_Framer_Feed.s, gateway_Gateway_payload.s] from hc) with rfl | hc
 ·exact frame_Framer_Feed.sok
 ·rw [List.mem_singleton.1 hc]; exact gateway_Gateway_payload.sok⟩
theorem gateway_Gateway_Feed.sok : ConSOk Tryz.prog gateway_Gateway_Feed.s := objM_ok (C := gateway_Gateway_Feed.C) (code := gateway_Gateway_Feed.code) (show TabOk Tryz.prog gateway_Gateway_Feed.C.T from tabOk) gateway_Gateway_Feed.ok mixed (by kernel_rfl) (by kernel_rfl) (by kernel_rfl) (by decide) fun x a y h => ⟨10000, h⟩
theorem pays_mem {p : ByteArray} : ∀ {l : List (Option ByteArray)}, p ∈ pays l → some p ∈ l
 | some q :: l, h => by
  rw [pays] at h
  exact (List.mem_cons.1 h).elim (fun e => by rw [e]; exact List.mem_cons_self ..) fun h => List.mem_cons_of_mem _ (pays_mem h)
 | none :: l, h => List.mem_cons_of_mem _ (pays_mem (show p ∈ pays l from h))
theorem gateway_Feed (g : CFG) (hg : greatC g = false) (ok : CfgOk g) (d : Int) (m0 : Int) (s0 : Bool × List Int) (m1 : Int) (s1 : Bool × List Int) (h0 : s0.2.length ≤ 10000) (h1 : s1.2.length ≤ 10000) (link : Int) (hl : link = 0 ∨ link = 1) (chunk : List UInt8) (hc : chunk.length ≤ 5000) :
  ∃ os d', gateway_Gateway_Feed.f ((g, (), (), d), (m0, s0), m1, s1) (link, sb chunk) = some ((os, ((g, (), (), d'), (m0, if link = 0 then (runP m0 chunk s0).2 else s0), m1, if link = 0 then s1 else (runP m1 chunk s1).2)) : List (Int × Int × ByteArray × Int) × GW) ∧
   os.map z0 = (if link = 0 then (runP m0 chunk s0).1 else (runP m1 chunk s1).1).map (outZ g link) := by
 have hout : ∀ p : ByteArray, p.size ≤ 1000000 → ∃ y, route_Outcome.f (g, link, p) = some y := fun p hp => route_Outcome_some g hg ok link hl p hp
 obtain ⟨b0, l0⟩ := s0
 obtain ⟨b1, l1⟩ := s1
 obtain ⟨⟨⟨⟨a0, a1, a2⟩, ⟨a3, a4⟩, a5, a6⟩, ⟨a7, a8, a9⟩, ⟨a10, a11⟩, a12, a13⟩, a14⟩ := g
 dsimp only at h0 h1
 have ee := gateway_Gateway_Feed.eq 10000 a0 a1 a2 a3 a4 a5 a6 a7 a8 a9 a10 a11 a12 a13 a14 d m0 b0 l0 m1 b1 l1 link (sb chunk)
 simp only [Bool.decide_eq_true] at ee
 rcases hl with rfl | rfl
 ·rw [show gateway_is.f 0 = some true from rfl, Option.bind_some, if_neg (by simp), if_pos rfl, frame_Framer_Feed m0 (b0, l0) chunk hc h0, Option.bind_some] at ee
  have hn := (runP_length m0 chunk (b0, l0)).1
  have hp := pays_length (runP m0 chunk (b0, l0)).1
  obtain ⟨os, d', e2, e3⟩ := gateway_Feed_l a0 a1 a2 a3 a4 a5 a6 a7 a8 a9 a10 a11 a12 a13 a14 m0 (runP m0 chunk (b0, l0)).2.1 (runP m0 chunk (b0, l0)).2.2 m1 b1 l1 0 (sb chunk) (died (runP m0 chunk (b0, l0)).1) (pays (runP m0 chunk (b0, l0)).1) (by omega) (fun p hp => hout p (by have := runP_size m0 chunk (b0, l0) p (pays_mem hp); dsimp only at this; omega)) (pays (runP m0 chunk (b0, l0)).1) 10000 0 [] d rfl (by omega) (by simp; omega)
  refine ⟨os, d', ?_, ?_⟩
  ·rw [if_pos rfl, if_pos rfl]
   refine ee.trans (e2.trans ?_)
   rw [List.nil_append]
  ·rw [if_pos rfl, e3, ← runP_evs]
 ·rw [show gateway_is.f 1 = some true from rfl, Option.bind_some, if_neg (by simp), if_neg (by decide), if_pos (by decide), frame_Framer_Feed m1 (b1, l1) chunk hc h1, Option.bind_some] at ee
  have hn := (runP_length m1 chunk (b1, l1)).1
  have hp := pays_length (runP m1 chunk (b1, l1)).1
  obtain ⟨os, d', e2, e3⟩ := gateway_Feed_l a0 a1 a2 a3 a4 a5 a6 a7 a8 a9 a10 a11 a12 a13 a14 m0 b0 l0 m1 (runP m1 chunk (b1, l1)).2.1 (runP m1 chunk (b1, l1)).2.2 1 (sb chunk) (died (runP m1 chunk (b1, l1)).1) (pays (runP m1 chunk (b1, l1)).1) (by omega) (fun p hp => hout p (by have := runP_size m1 chunk (b1, l1) p (pays_mem hp); dsimp only at this; omega)) (pays (runP m1 chunk (b1, l1)).1) 10000 0 [] d rfl (by omega) (by simp; omega)
  refine ⟨os, d', ?_, ?_⟩
  ·rw [if_neg (by decide), if_neg (by decide)]
   refine ee.trans (e2.trans ?_)
   rw [List.nil_append]
  ·rw [if_neg (by decide), e3, ← runP_evs]
abbrev EV := Int × ByteArray
abbrev O4 := Int × Int × ByteArray × Int
@[reducible] def r26_Great.sg : List Shp := [.v (.sl zdE), .v (.int .i64)]
@[reducible] def r26_Great.rs : Rs := .one (.v (.bool))
@[reducible] noncomputable def r26_Great.code : Code := Tryz.f68.body.getD .skip
noncomputable def r26_Great.C : Ctx := ⟨tab, [], [], ⟨[(3, [0, 1, 5, 6], 0)], []⟩⟩
noncomputable def r26_Great.l0 (n : Nat) (v0 : List zE) (v1 v2 v3 : Int) : Option Bool := run r26_Great.C (finOf r26_Great.C Tryz.f68 r26_Great.rs) n (todoAt 3 r26_Great.code) ⟨.sl none zdE v0 :: .int .i64 v1 :: zJ :: zJ :: zJ :: .int .i64 v2 :: .int .i64 v3 :: zK (zK (zK (zK []))), [], []⟩
theorem r26_Great.l0_eq n v0 v1 v2 v3 : r26_Great.l0 (n + 1) v0 v1 v2 v3 =
 (if v3 < (v0.length : Int) then (if v2 > v1 then (some true)
 else ((lget v0 v3).bind fun b0 =>
 (if (b0.2.size : Int) > v1 then (some true)
 else ((lget v0 v3).bind fun b1 =>
 (r26_Great.l0 n v0 v1 (IntKind.wrap .i64 (v2 + (b1.2.size : Int))) (IntKind.wrap .i64 (v3 + 1)))))))
 else (some (decide (v2 > v1)))) := by kernel_rfl
theorem r26_Great.eq (n : Nat) (a0 : List zE) (a1 : Int) : call r26_Great.C Tryz.f68 r26_Great.code r26_Great.sg r26_Great.rs n (a0, a1) =
 (r26_Great.l0 n a0 a1 (a0.length : Int) 0) := by kernel_rfl
def greatE (most : Int) : List EV → Int → Bool
 | [], n => decide (n > most)
 | e :: r, n => decide (n > most) || (decide ((e.2.size : Int) > most) || greatE most r (n + (e.2.size : Int)))
def r26_Great.f : List EV × Int → Option Bool := fun x => if x.2 = 2500 then some (greatE 2500 x.1 (x.1.length : Int)) else none
theorem r26_Great_l (l : List EV) (hl : l.length ≤ 2500) : ∀ (m : List EV) (k i n : Nat), l.drop i = m → m.length < k → r26_Great.l0 k l 2500 (n : Int) (i : Int) = some (greatE 2500 m (n : Int))
 | [], k, i, n, hd, hk => by
  obtain ⟨k, rfl⟩ : ∃ m, k = m + 1 := ⟨k - 1, by omega⟩
  have := dropn hd
  rw [r26_Great.l0_eq, if_neg (by omega)]; rfl
 | e :: m, k, i, n, hd, hk => by
  obtain ⟨k, rfl⟩ : ∃ m, k = m + 1 := ⟨k - 1, by omega⟩
  obtain ⟨h1, h2, h3, h4⟩ := dropc hd
  have hk' : m.length < k := by simp at hk; omega
  rw [r26_Great.l0_eq, if_pos (by omega), greatE]
  by_cases c1 : (n : Int) > 2500
  ·rw [if_pos c1, decide_eq_true c1]; rfl
  rw [if_neg c1, decide_eq_false c1, h4, Option.bind_some]
  by_cases c2 : (e.2.size : Int) > 2500
  ·rw [if_pos c2, decide_eq_true c2]; rfl
  rw [if_neg c2, decide_eq_false c2, Option.bind_some, wrap_succ (by omega), wrap_id (by omega) (by omega), Bool.false_or, Bool.false_or]
  have := r26_Great_l l hl m k (i + 1) (n + e.2.size) h2 hk'
  rw [Int.natCast_add] at this
  exact this
theorem r26_Great.run (l : List EV) : call r26_Great.C Tryz.f68 r26_Great.code r26_Great.sg r26_Great.rs (l.length + 1) (l, 2500) = some (greatE 2500 l (l.length : Int)) := by
 rw [r26_Great.eq]
 rcases Nat.lt_or_ge 2500 l.length with h | h
 ·rw [r26_Great.l0_eq, if_pos (by omega), if_pos (by omega)]
  cases l with
  | nil => simp at h
  | cons e r => rw [greatE, decide_eq_true (by omega)]; rfl
 ·exact r26_Great_l l h l (l.length + 1) 0 l.length rfl (by omega)
noncomputable def r26_Great.c : Con := ⟨68, r26_Great.sg, r26_Great.rs, r26_Great.f⟩
theorem r26_Great.con : ConOk Tryz.prog r26_Great.c := walked (C := r26_Great.C) rfl (by kernel_rfl) (by kernel_rfl) (by kernel_rfl) rfl trivial fun ⟨l, most⟩ y h => by
 have h : r26_Great.f (l, most) = some y := h
 unfold r26_Great.f at h
 split at h
 ·rename_i hm
  obtain rfl : most = 2500 := hm
  exact ⟨_, (r26_Great.run l).trans h⟩
 ·cases h
def tot : List EV → Nat
 | [] => 0
 | e :: r => e.2.size + tot r
theorem greatE_no : ∀ (m : List EV) (n : Nat), greatE 2500 m (n : Int) = false → n + tot m ≤ 2500
 | [], n, h => by
  rw [greatE] at h
  have := of_decide_eq_false h
  rw [tot]; omega
 | e :: r, n, h => by
  rw [greatE, Bool.or_eq_false_iff, Bool.or_eq_false_iff] at h
  have := greatE_no r (n + e.2.size) (by rw [Int.natCast_add]; exact h.2.2)
  rw [tot]; omega
@[reducible] def groattop_right.sg : List Shp := [.v (.sl zdE), .v (.int .i64)]
@[reducible] def groattop_right.rs : Rs := .one (.v (.bool))
@[reducible] noncomputable def groattop_right.code : Code := Tryz.f29.body.getD .skip
noncomputable def groattop_right.C : Ctx := ⟨tab, [r26_Great.c], [], ⟨[(4, [10, 11, 12], 0)], []⟩⟩
noncomputable def groattop_right.l0 (n : Nat) (v0 : List zE) (v1 v2 : Int) : Option Bool := run groattop_right.C (finOf groattop_right.C Tryz.f29 groattop_right.rs) n (todoAt 4 groattop_right.code) ⟨zJ :: zJ :: zK (.sl none zdE v0 :: .int .i64 v1 :: .int .i64 v2 :: zJ :: zJ :: zJ :: zJ :: zK []), [], []⟩
theorem groattop_right.l0_eq n v0 v1 v2 : groattop_right.l0 (n + 1) v0 v1 v2 =
 (if v2 < v1 then ((lget v0 v2).bind fun b1 =>
 (if b1.1 < 0 then (some false)
 else (if b1.1 > 1 then (some false)
 else (groattop_right.l0 n v0 v1 (IntKind.wrap .i64 (v2 + 1))))))
 else (some true)) := by kernel_rfl
theorem groattop_right.eq (n : Nat) (a0 : List zE) (a1 : Int) : call groattop_right.C Tryz.f29 groattop_right.code groattop_right.sg groattop_right.rs n (a0, a1) =
 ((r26_Great.f (a0, a1)).bind fun b0 =>
 (if b0 = true then (some false)
 else (groattop_right.l0 n a0 (a0.length : Int) 0))) := by kernel_rfl
def okE : List EV → Bool
 | [] => true
 | e :: r => decide (¬ e.1 < 0) && (decide (¬ e.1 > 1) && okE r)
def groattop_right.f : List EV × Int → Option Bool := fun x => if x.2 = 2500 then some (!greatE 2500 x.1 (x.1.length : Int) && okE x.1) else none
theorem groattop_right_l (l : List EV) (hl : l.length ≤ 2500) : ∀ (m : List EV) (k i : Nat), l.drop i = m → m.length < k → groattop_right.l0 k l (l.length : Int) (i : Int) = some (okE m)
 | [], k, i, hd, hk => by
  obtain ⟨k, rfl⟩ : ∃ m, k = m + 1 := ⟨k - 1, by omega⟩
  have := dropn hd
  rw [groattop_right.l0_eq, if_neg (by omega)]; rfl
 | e :: m, k, i, hd, hk => by
  obtain ⟨k, rfl⟩ : ∃ m, k = m + 1 := ⟨k - 1, by omega⟩
  obtain ⟨h1, h2, h3, h4⟩ := dropc hd
  have hk' : m.length < k := by simp at hk; omega
  rw [groattop_right.l0_eq, if_pos (by omega), h4, Option.bind_some, okE]
  by_cases c1 : e.1 < 0
  ·rw [if_pos c1, decide_eq_false (not_not_intro c1)]; rfl
  rw [if_neg c1, decide_eq_true c1]
  by_cases c2 : e.1 > 1
  ·rw [if_pos c2, decide_eq_false (not_not_intro c2)]; rfl
  rw [if_neg c2, decide_eq_true c2, wrap_succ (by omega), Bool.true_and, Bool.true_and]
  exact groattop_right_l l hl m k (i + 1) h2 hk'
theorem groattop_right.run (l : List EV) : call groattop_right.C Tryz.f29 groattop_right.code groattop_right.sg groattop_right.rs (l.length + 1) (l, 2500) = some (!greatE 2500 l (l.length : Int) && okE l) := by
 rw [groattop_right.eq, show r26_Great.f (l, 2500) = some (greatE 2500 l (l.length : Int)) from rfl, Option.bind_some]
 cases h : greatE 2500 l (l.length : Int) with
 | true => rw [if_pos rfl]; rfl
 | false =>
  have := greatE_no l l.length h
  rw [if_neg (by simp)]
  exact groattop_right_l l (by omega) l (l.length + 1) 0 rfl (by omega)
noncomputable def groattop_right.c : Con := ⟨29, groattop_right.sg, groattop_right.rs, groattop_right.f⟩
theorem groattop_right.con : ConOk Tryz.prog groattop_right.c := walked (C := groattop_right.C) rfl (by kernel_rfl) (by kernel_rfl) (by kernel_rfl) rfl ⟨r26_Great.con, trivial⟩ fun ⟨l, most⟩ y h => by
 have h : groattop_right.f (l, most) = some y := h
 unfold groattop_right.f at h
 split at h
 ·rename_i hm
  obtain rfl : most = 2500 := hm
  exact ⟨_, (groattop_right.run l).trans h⟩
 ·cases h
@[reducible] def r26_Stream.sg : List Shp := [.v (.sl zdE), .v (.int .i64)]
@[reducible] def r26_Stream.rs : Rs := .one (.v (.str))
@[reducible] noncomputable def r26_Stream.code : Code := Tryz.f32.body.getD .skip
noncomputable def r26_Stream.C : Ctx := ⟨tab, [], [], ⟨[(3, [0, 1, 5, 6], 0)], []⟩⟩
noncomputable def r26_Stream.l0 (n : Nat) (v0 : List zE) (v1 : Int) (v2 : ByteArray) (v3 : Int) : Option ByteArray := run r26_Stream.C (finOf r26_Stream.C Tryz.f32 r26_Stream.rs) n (todoAt 3 r26_Stream.code) ⟨.sl none zdE v0 :: .int .i64 v1 :: zJ :: zJ :: zJ :: .str v2 :: .int .i64 v3 :: zJ :: zJ :: zJ :: zJ :: zJ :: zK (zK []), [], []⟩
theorem r26_Stream.l0_eq n v0 v1 v2 v3 : r26_Stream.l0 (n + 1) v0 v1 v2 v3 =
 (if v3 < (v0.length : Int) then ((lget v0 v3).bind fun b0 =>
 (if b0.1 = v1 then ((lget v0 v3).bind fun b1 =>
 ((scat v2 b1.2).bind fun b2 =>
 (r26_Stream.l0 n v0 v1 b2 (IntKind.wrap .i64 (v3 + 1)))))
 else (r26_Stream.l0 n v0 v1 v2 (IntKind.wrap .i64 (v3 + 1)))))
 else (some v2)) := by kernel_rfl
theorem r26_Stream.eq (n : Nat) (a0 : List zE) (a1 : Int) : call r26_Stream.C Tryz.f32 r26_Stream.code r26_Stream.sg r26_Stream.rs n (a0, a1) =
 (r26_Stream.l0 n a0 a1 (ByteArray.mk #[]) 0) := by kernel_rfl
def strm (k : Int) : List EV → List UInt8
 | [] => []
 | e :: r => (if e.1 = k then bl e.2 else []) ++ strm k r
theorem strm_append (k : Int) : ∀ a b : List EV, strm k (a ++ b) = strm k a ++ strm k b
 | [], b => rfl
 | e :: a, b => by rw [List.cons_append, strm, strm, strm_append k a b, List.append_assoc]
theorem bl_size (b : ByteArray) : (bl b).length = b.size := by
 obtain ⟨q, rfl⟩ := ex_sb b
 rw [bl_sb, size_sb]
theorem strm_length (k : Int) : ∀ l : List EV, (strm k l).length ≤ tot l
 | [] => Nat.le_refl _
 | e :: r => by
  have := strm_length k r
  have hb := bl_size e.2
  rw [strm, tot, List.length_append]
  split
  ·omega
  ·simp; omega
noncomputable def r26_Stream.f : List EV × Int → Option ByteArray := fun x => if x.1.length ≤ 2500 ∧ tot x.1 ≤ 2500 then some (sb (strm x.2 x.1)) else none
theorem r26_Stream_l (l : List EV) (hl : l.length ≤ 2500) (link : Int) : ∀ (m : List EV) (k i : Nat) (acc : List UInt8), l.drop i = m → m.length < k → acc.length + tot m ≤ 1000000 → r26_Stream.l0 k l link (sb acc) (i : Int) = some (sb (acc ++ strm link m))
 | [], k, i, acc, hd, hk, ha => by
  obtain ⟨k, rfl⟩ : ∃ m, k = m + 1 := ⟨k - 1, by omega⟩
  have := dropn hd
  rw [r26_Stream.l0_eq, if_neg (by omega), strm, List.append_nil]
 | (a, b) :: m, k, i, acc, hd, hk, ha => by
  obtain ⟨k, rfl⟩ : ∃ m, k = m + 1 := ⟨k - 1, by omega⟩
  obtain ⟨q, rfl⟩ := ex_sb b
  obtain ⟨h1, h2, h3, h4⟩ := dropc hd
  have hk' : m.length < k := by simp at hk; omega
  rw [tot] at ha
  dsimp only at ha
  rw [size_sb] at ha
  rw [r26_Stream.l0_eq, if_pos (by omega), h4, Option.bind_some, strm]
  dsimp only
  rw [bl_sb]
  by_cases c : a = link
  ·rw [if_pos c, if_pos c, Option.bind_some, scat_sb _ _ (by omega), Option.bind_some, wrap_succ (by omega), ← List.append_assoc]
   exact r26_Stream_l l hl link m k (i + 1) (acc ++ q) h2 hk' (by rw [List.length_append]; omega)
  ·rw [if_neg c, if_neg c, wrap_succ (by omega), List.nil_append]
   exact r26_Stream_l l hl link m k (i + 1) acc h2 hk' (by omega)
noncomputable def r26_Stream.c : Con := ⟨32, r26_Stream.sg, r26_Stream.rs, r26_Stream.f⟩
theorem r26_Stream.con : ConOk Tryz.prog r26_Stream.c := walked (C := r26_Stream.C) rfl (by kernel_rfl) (by kernel_rfl) (by kernel_rfl) rfl trivial fun ⟨l, link⟩ y h => by
 have h : r26_Stream.f (l, link) = some y := h
 unfold r26_Stream.f at h
 split at h
 ·rename_i hm
  obtain ⟨hm1, hm2⟩ : l.length ≤ 2500 ∧ tot l ≤ 2500 := hm
  refine ⟨l.length + 1, (r26_Stream.eq (l.length + 1) l link).trans (Eq.trans ?_ h)⟩
  have := r26_Stream_l l hm1 link l (l.length + 1) 0 [] rfl (by omega) (by simp only [List.length_nil]; omega)
  rw [List.nil_append] at this
  exact this
 ·cases h
theorem r26_Stream (l : List EV) (link : Int) (h1 : l.length ≤ 2500) (h2 : tot l ≤ 2500) : r26_Stream.f (l, link) = some (sb (strm link l)) := if_pos ⟨h1, h2⟩
@[reducible] def r26_Same.sg : List Shp := [.v (.sl zdO), .v (.sl zdO)]
@[reducible] def r26_Same.rs : Rs := .one (.v (.bool))
@[reducible] noncomputable def r26_Same.code : Code := Tryz.f33.body.getD .skip
noncomputable def r26_Same.C : Ctx := ⟨tab, [], [], ⟨[(4, [0, 1, 5], 0)], []⟩⟩
noncomputable def r26_Same.l0 (n : Nat) (v0 v1 : List zO) (v2 : Int) : Option Bool := run r26_Same.C (finOf r26_Same.C Tryz.f33 r26_Same.rs) n (todoAt 4 r26_Same.code) ⟨.sl none zdO v0 :: .sl none zdO v1 :: zJ :: zJ :: zJ :: .int .i64 v2 :: zJ :: zJ :: zJ :: zJ :: zK (zK []), [], []⟩
theorem r26_Same.l0_eq n v0 v1 v2 : r26_Same.l0 (n + 1) v0 v1 v2 =
 (if v2 < (v0.length : Int) then ((lget v0 v2).bind fun b0 =>
 ((lget v1 v2).bind fun b1 =>
 (if ¬(b0.1 = b1.1 ∧ b0.2.1 = b1.2.1 ∧ b0.2.2.1 = b1.2.2.1 ∧ b0.2.2.2 = b1.2.2.2 ∧ True) then (some false)
 else (r26_Same.l0 n v0 v1 (IntKind.wrap .i64 (v2 + 1))))))
 else (some true)) := by kernel_rfl
theorem r26_Same.eq (n : Nat) (a0 a1 : List zO) : call r26_Same.C Tryz.f33 r26_Same.code r26_Same.sg r26_Same.rs n (a0, a1) =
 (if ¬(a0.length : Int) = (a1.length : Int) then (some false)
 else (r26_Same.l0 n a0 a1 0)) := by kernel_rfl
def r26_Same.f : List O4 × List O4 → Option Bool := fun x => if x.1 = x.2 ∧ x.1.length ≤ 1000000 then some true else none
theorem r26_Same_l (l : List O4) (hl : l.length ≤ 1000000) : ∀ (m : List O4) (k i : Nat), l.drop i = m → m.length < k → r26_Same.l0 k l l (i : Int) = some true
 | [], k, i, hd, hk => by
  obtain ⟨k, rfl⟩ : ∃ m, k = m + 1 := ⟨k - 1, by omega⟩
  have := dropn hd
  rw [r26_Same.l0_eq, if_neg (by omega)]
 | o :: m, k, i, hd, hk => by
  obtain ⟨k, rfl⟩ : ∃ m, k = m + 1 := ⟨k - 1, by omega⟩
  obtain ⟨h1, h2, h3, h4⟩ := dropc hd
  have hk' : m.length < k := by simp at hk; omega
  rw [r26_Same.l0_eq, if_pos (by omega), h4, Option.bind_some, Option.bind_some, if_neg (not_not_intro ⟨rfl, rfl, rfl, rfl, trivial⟩), wrap_succ (by omega)]
  exact r26_Same_l l hl m k (i + 1) h2 hk'
theorem r26_Same.run (l : List O4) (hl : l.length ≤ 1000000) : call r26_Same.C Tryz.f33 r26_Same.code r26_Same.sg r26_Same.rs (l.length + 1) (l, l) = some true := by
 rw [r26_Same.eq, if_neg (not_not_intro rfl)]
 exact r26_Same_l l hl l (l.length + 1) 0 rfl (by omega)
noncomputable def r26_Same.c : Con := ⟨33, r26_Same.sg, r26_Same.rs, r26_Same.f⟩
theorem r26_Same.con : ConOk Tryz.prog r26_Same.c := walked (C := r26_Same.C) rfl (by kernel_rfl) (by kernel_rfl) (by kernel_rfl) rfl trivial fun ⟨l, r⟩ y h0 => by
 have h : (if l = r ∧ l.length ≤ 1000000 then some true else none) = some y := h0
 clear h0
 split at h
 ·rename_i hm
  obtain ⟨hm1, hm2⟩ : l = r ∧ l.length ≤ 1000000 := hm
  subst hm1
  exact ⟨_, (r26_Same.run l hm2).trans h⟩
 ·cases h
theorem r26_Same (l : List O4) (h : l.length ≤ 1000000) : r26_Same.f (l, l) = some true := if_pos ⟨rfl, h⟩
end Go.Proofs.YtkaihbkfobiejaaGreatDoor.Xe
