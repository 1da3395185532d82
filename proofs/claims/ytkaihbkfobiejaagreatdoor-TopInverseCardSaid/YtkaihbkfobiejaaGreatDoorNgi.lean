import Derived.Test.YtkaihbkfobiejaaGreatDoorNga
import Derived.Test.YtkaihbkfobiejaaGreatDoorNgg
import Derived.Test.YtkaihbkfobiejaaGreatDoorNgh
/- Digits with noughts ahead, or without some. -/
namespace Go.Proofs.YtkaihbkfobiejaaGreatDoor.Sp
open Go Go.RowKit
set_option linter.unusedVariables false
set_option linter.unusedSimpArgs false
def stripR (l : List UInt8) : List UInt8 := (l.reverse.dropWhile (· == 48)).reverse
def stripB (l : List UInt8) : List UInt8 := (stripR l).dropWhile (· == 48)
theorem dropWhile_nil {p : UInt8 → Bool} : ∀ (l : List UInt8), l.dropWhile p = [] ↔ l.all p = true
  | [] => by simp
  | x :: l => by
    rw [List.dropWhile_cons, List.all_cons]
    cases c : p x
    · simp
    · simp [dropWhile_nil l]
theorem stripB_nil (l : List UInt8) : stripB l = [] ↔ l.all (· == 48) = true := by
  unfold stripB
  rw [dropWhile_nil]
  constructor
  · intro h
    -- the last that isn't a nought would be left
    by_cases c : stripR l = []
    · unfold stripR at c
      have c := List.reverse_eq_nil_iff.1 c
      rw [dropWhile_nil, List.all_reverse] at c
      exact c
    · exfalso
      unfold stripR at c h
      rw [List.all_reverse] at h
      have hne : l.reverse.dropWhile (· == 48) ≠ [] := fun e => c (by rw [e]; rfl)
      obtain ⟨x, m, e⟩ := List.exists_cons_of_ne_nil hne
      have hx : (x == 48) = false := by
        have := List.head_dropWhile_not (· == (48 : UInt8)) hne
        simpa [e] using this
      rw [e, List.all_cons, hx] at h
      cases h
  · intro h
    have : stripR l = [] := by
      unfold stripR
      rw [(dropWhile_nil _).2 (by rw [List.all_reverse]; exact h)]; rfl
    rw [this]; rfl
theorem stripR_concat (m : List UInt8) (x : UInt8) : stripR (m ++ [x]) = if x = 48 then stripR m else m ++ [x] := by
  unfold stripR
  rw [List.reverse_append, List.reverse_singleton, List.singleton_append, List.dropWhile_cons]
  by_cases c : x = 48
  · rw [if_pos c, if_pos (by simpa using c)]
  · rw [if_neg c, if_neg (by simpa using c)]; simp
/-- Digits, so many. -/
def padB (l : List UInt8) (w : Int) : List UInt8 × Bool :=
  if l = [] ∨ 999 < l.length ∨ l.all dig = false ∨ w < 1 ∨ 999 < w then ([], false)
  else if (l.length : Int) ≤ w then (List.replicate (w.toNat - l.length) 48 ++ l, true)
  else if (l.take (l.length - w.toNat)).all (· == 48) = true then (l.drop (l.length - w.toNat), true) else ([], false)
end Go.Proofs.YtkaihbkfobiejaaGreatDoor.Sp

/- Maps turned, in plain words. -/
namespace Go.Proofs.YtkaihbkfobiejaaGreatDoor.Sp
open Go Go.RowKit
set_option linter.unusedVariables false
set_option linter.unusedSimpArgs false
/-- Can a rule be undone? -/
def undoneE (r : RU) (a b : List S5) : Bool :=
  if r.1 = 1 then wider (findS r.2.1 a).1 (findS r.2.2.1 b).1 && wider (findS r.2.2.1 b).1 (findS r.2.1 a).1
  else if r.1 = 4 then decide ((findS r.2.2.1 b).1.2.2.2.1 ≥ (findS r.2.1 a).1.2.2.2.1)
  else if r.1 = 5 then bijP r.2.2.2.2 else false
/-- Does nothing get lost by a map? -/
def invE (m : RC) (a b : Int × Int × List S5) : Bool := decide ((mapE m a b).1 = 0) && (bijP m.1 && m.2.all fun r => undoneE r a.2.2 b.2.2)
def turnR (r : RU) : RU := (r.1, r.2.2.1, r.2.1, r.2.2.2.1, turnP r.2.2.2.2)
def turnM (m : RC) : RC := (turnP m.1, m.2.map turnR)
def greatU (r : RU) : Bool := decide (1200 < r.2.2.2.1.size) || (decide (300 < r.2.2.2.2.length) || r.2.2.2.2.any fun p => decide (1200 < p.1.size) || decide (1200 < p.2.size))
def greatM (m : RC) : Bool := decide (300 < m.1.length) || (decide (300 < m.2.length) || ((m.1.any fun p => decide (100 < p.1.size) || decide (100 < p.2.size)) || m.2.any greatU))
end Go.Proofs.YtkaihbkfobiejaaGreatDoor.Sp

/- Maps by which nothing gets lost, in plain words. -/
namespace Go.Proofs.YtkaihbkfobiejaaGreatDoor.Sp
open Go Go.RowKit
set_option linter.unusedVariables false
set_option linter.unusedSimpArgs false
/-! ### Tables -/
theorem pairsL_ok : ∀ (l : List PB) (seen : List ByteArray) (i : Nat), (pairsL l seen i).1 = 0 ↔ (∀ p ∈ l, p.1 ∉ seen) ∧ (l.map Prod.fst).Nodup
  | [], seen, i => ⟨fun _ => ⟨fun _ hp => (by cases hp), .nil⟩, fun _ => rfl⟩
  | p :: l, seen, i => by
    rw [pairsL]
    by_cases c : p.1 ∈ seen
    · rw [if_pos c]
      exact ⟨fun h => (by cases h), fun h => absurd c (h.1 p (List.mem_cons_self ..))⟩
    · rw [if_neg c, pairsL_ok l _ (i + 1), List.map_cons, List.nodup_cons]
      constructor
      · rintro ⟨h1, h2⟩
        refine ⟨fun q hq => (List.mem_cons.1 hq).elim (fun e => by rw [e]; exact c) fun hq hs => h1 q hq (List.mem_append_left _ hs), fun hm => ?_, h2⟩
        obtain ⟨q, hq, e⟩ := List.mem_map.1 hm
        exact h1 q hq (by rw [e]; exact List.mem_append_right _ (List.mem_cons_self ..))
      · rintro ⟨h1, h2, h3⟩
        refine ⟨fun q hq hs => ?_, h3⟩
        rcases List.mem_append.1 hs with hs | hs
        · exact h1 q (List.mem_cons_of_mem _ hq) hs
        · exact h2 (List.mem_map.2 ⟨q, hq, List.mem_singleton.1 hs⟩)
theorem pairsE_ok (l : List PB) : (pairsE l).1 = 0 ↔ l.length ≤ 256 ∧ (l.map Prod.fst).Nodup := by
  unfold pairsE
  by_cases c : 256 < l.length
  · rw [if_pos c]
    exact ⟨fun h => (by cases h), fun h => (by omega)⟩
  · rw [if_neg c, pairsL_ok]
    exact ⟨fun h => ⟨by omega, h.2⟩, fun h => ⟨fun _ _ hs => (by cases hs), h.2⟩⟩
theorem turnP_fst (l : List PB) : (turnP l).map Prod.fst = l.map Prod.snd := by unfold turnP; rw [List.map_map]; rfl
theorem turnP_length (l : List PB) : (turnP l).length = l.length := by unfold turnP; rw [List.length_map]
theorem turnP_snd (l : List PB) : (turnP l).map Prod.snd = l.map Prod.fst := by unfold turnP; rw [List.map_map]; rfl
theorem mem_turnP {l : List PB} {x y : ByteArray} : (x, y) ∈ turnP l ↔ (y, x) ∈ l := by
  unfold turnP
  constructor
  · intro h
    obtain ⟨p, hp, e⟩ := List.mem_map.1 h
    obtain ⟨a, b⟩ := p
    cases e
    exact hp
  · intro h
    exact List.mem_map.2 ⟨_, h, rfl⟩
theorem bijP_ok {l : List PB} (h : bijP l = true) : l.length ≤ 256 ∧ (l.map Prod.fst).Nodup ∧ (l.map Prod.snd).Nodup := by
  unfold bijP at h
  rw [Bool.and_eq_true, decide_eq_true_eq, decide_eq_true_eq, pairsE_ok, pairsE_ok, turnP_fst] at h
  exact ⟨h.1.1, h.1.2, h.2.2⟩
theorem applyP_mem {t : ByteArray} : ∀ {l : List PB}, (applyP t l).2 = true → (t, (applyP t l).1) ∈ l
  | [], h => by cases h
  | p :: l, h => by
    rw [applyP] at h ⊢
    by_cases c : p.1 = t
    · rw [if_pos c]
      exact List.mem_cons.2 (.inl (by rw [← c]))
    · rw [if_neg c] at h ⊢
      exact List.mem_cons_of_mem _ (applyP_mem h)
theorem applyP_of {t u : ByteArray} : ∀ {l : List PB}, (t, u) ∈ l → (l.map Prod.fst).Nodup → applyP t l = (u, true)
  | [], h, _ => by cases h
  | p :: l, h, hn => by
    rw [List.map_cons, List.nodup_cons] at hn
    rw [applyP]
    rcases List.mem_cons.1 h with e | h
    · rw [← e, if_pos rfl]
    · rw [if_neg (fun e => hn.1 (by rw [e]; exact List.mem_map.2 ⟨_, h, rfl⟩))]
      exact applyP_of h hn.2
theorem tableL_ok (a b : S5) : ∀ l : List PB, tableL a b l = 0 ↔ ∀ p ∈ l, specA a (bl p.1) = 0 ∧ specA b (bl p.2) = 0
  | [] => ⟨fun _ _ hp => (by cases hp), fun _ => rfl⟩
  | p :: l => by
    rw [tableL]
    by_cases c1 : specA a (bl p.1) = 0
    · rw [if_neg (not_not_intro c1)]
      by_cases c2 : specA b (bl p.2) = 0
      · rw [if_neg (not_not_intro c2), tableL_ok a b l]
        exact ⟨fun h q hq => (List.mem_cons.1 hq).elim (fun e => by rw [e]; exact ⟨c1, c2⟩) (h q), fun h q hq => h q (List.mem_cons_of_mem _ hq)⟩
      · rw [if_pos c2]
        exact ⟨fun h => absurd h c2, fun h => absurd (h p (List.mem_cons_self ..)).2 c2⟩
    · rw [if_pos c1]
      exact ⟨fun h => absurd h c1, fun h => absurd (h p (List.mem_cons_self ..)).1 c1⟩
theorem tableE_ok (l : List PB) (a b : S5) : tableE l a b = 0 ↔ (pairsE l).1 = 0 ∧ l.length ≠ 0 ∧ ∀ p ∈ l, specA a (bl p.1) = 0 ∧ specA b (bl p.2) = 0 := by
  unfold tableE
  by_cases c : (pairsE l).1 ≠ 0 ∨ l.length = 0
  · rw [if_pos c]
    exact ⟨fun h => (by cases h), fun h => c.elim (fun c => absurd h.1 c) fun c => absurd c h.2.1⟩
  · rw [if_neg c, tableL_ok]
    simp only [not_or, ne_eq, Decidable.not_not] at c
    exact ⟨fun h => ⟨c.1, c.2, h⟩, fun h => h.2.2⟩
/-! ### Pads -/
theorem one_dig (x : UInt8) : inC 1 x = dig x := by
  unfold inC inN dig
  rw [if_pos rfl, ← Bool.decide_and]
  exact decide_eq_decide.2 (by omega)
theorem all_one (l : List UInt8) : l.all (inC 1) = l.all dig := by
  congr 1
  funext x
  exact one_dig x
theorem pad_there {l : List UInt8} {w : Nat} (h0 : l ≠ []) (h1 : l.length ≤ w) (h2 : w ≤ 999) (hd : l.all dig = true) : padB l (w : Int) = (List.replicate (w - l.length) 48 ++ l, true) := by
  have hp : 0 < l.length := List.length_pos_iff.2 h0
  unfold padB
  rw [if_neg, if_pos (by omega), Int.toNat_natCast]
  rintro (h | h | h | h | h)
  · exact h0 h
  · omega
  · rw [hd] at h; cases h
  · omega
  · omega
theorem pad_back {l : List UInt8} {k : Nat} (h0 : l ≠ []) (h2 : k + l.length ≤ 999) (hd : l.all dig = true) : padB (List.replicate k 48 ++ l) ((l.length : Nat) : Int) = (l, true) := by
  have hp : 0 < l.length := List.length_pos_iff.2 h0
  have hl : (List.replicate k (48 : UInt8) ++ l).length = k + l.length := by rw [List.length_append, List.length_replicate]
  unfold padB
  rw [if_neg]
  · by_cases c : k = 0
    · subst c
      rw [if_pos (by rw [hl]; omega), hl]
      simp
    · rw [if_neg (by rw [hl]; omega), hl, Int.toNat_natCast, show k + l.length - l.length = k by omega]
      have t1 : (List.replicate k (48 : UInt8) ++ l).take k = List.replicate k 48 := List.take_left' (List.length_replicate ..)
      have t2 : (List.replicate k (48 : UInt8) ++ l).drop k = l := List.drop_left' (List.length_replicate ..)
      rw [t1, t2, if_pos (by rw [List.all_replicate]; simp)]
  · rintro (h | h | h | h | h)
    · rw [h] at hl; simp at hl; omega
    · omega
    · rw [List.all_append, hd, List.all_replicate] at h
      have : dig 48 = true := by decide
      rw [this] at h
      simp at h
    · omega
    · omega
/-! ### Rules -/
def applyR (r : RU) (b : List S5) (t : ByteArray) : V × Int :=
  if r.1 = 1 then ((r.2.2.1, t), 0) else if r.1 = 2 then ((0, ByteArray.mk #[]), 0) else if r.1 = 3 then ((r.2.2.1, r.2.2.2.1), 0)
  else if r.1 = 4 then (if (findS r.2.2.1 b).2 = false then ((0, ByteArray.mk #[]), 9) else if (padB (bl t) (findS r.2.2.1 b).1.2.2.2.1).2 = false then ((0, ByteArray.mk #[]), 5) else ((r.2.2.1, sb (padB (bl t) (findS r.2.2.1 b).1.2.2.2.1).1), 0))
  else if r.1 = 5 then (if (applyP t r.2.2.2.2).2 = false then ((0, ByteArray.mk #[]), 15) else ((r.2.2.1, (applyP t r.2.2.2.2).1), 0))
  else ((0, ByteArray.mk #[]), 1)
theorem keepsA {a b : S5} (hw : wider a b = true) {l : List UInt8} (hv : specA b l = 0) : specA a l = 0 := by
  obtain ⟨no, c, fo, mi, ma⟩ := a
  obtain ⟨no', c', fo', mi', ma'⟩ := b
  unfold wider at hw
  unfold specA at hv ⊢
  dsimp only at hw hv ⊢
  simp only [specW, Bool.and_eq_true, decide_eq_true_eq] at hw
  obtain ⟨⟨h1, h2, h3, h4⟩, h5⟩ := hw
  have hz := specE_zero h2
  unfold specV at hv ⊢
  rw [if_neg (not_not_intro h2)] at hv
  rw [if_neg (not_not_intro h1)]
  by_cases g1 : (l.length : Int) < mi' ∨ ma' < (l.length : Int)
  · rw [if_pos g1] at hv; cases hv
  · rw [if_neg g1] at hv
    rw [if_neg (by omega)]
    by_cases g2 : l.all (inC c') = false
    · rw [if_pos g2] at hv; cases hv
    · rw [if_neg g2] at hv
      have g3 : l.all (inC c) = true := by
        rw [Bool.not_eq_false] at g2
        rw [List.all_eq_true] at g2 ⊢
        exact fun x hx => specC_in hz.2.1 h5 x (g2 x hx)
      rw [if_neg (by rw [g3]; decide)]
      by_cases g4 : c = 6 ∧ tlvErr l ≠ 0
      · rw [if_pos ⟨specC_six h5 g4.1, g4.2⟩] at hv; cases hv
      · rw [if_neg g4]
theorem specE_of {a b : Int} {s : List S5} (hs : (schemaE (a, b, s)).1 = 0) {n : Int} (h : (findS n s).2 = true) : specE (findS n s).1.1 (findS n s).1.2.1 (findS n s).1.2.2.1 (findS n s).1.2.2.2.1 (findS n s).1.2.2.2.2 = 0 := by
  unfold schemaE at hs
  dsimp only at hs
  by_cases c1 : ¬ (a = 1 ∨ a = 2)
  · rw [if_pos c1] at hs; cases hs
  rw [if_neg c1] at hs
  by_cases c2 : b < 0 ∨ 9 < b
  · rw [if_pos c2] at hs; cases hs
  rw [if_neg c2] at hs
  have h1 := ((schE_ok _ _ _).1 hs).1
  have : ∀ s : List S5, (findS n s).2 = true → (findS n s).1 ∈ s := by
    intro s
    induction s with
    | nil => intro h; cases h
    | cons v m ih =>
      intro h
      rw [findS] at h ⊢
      by_cases c : v.1 = n
      · rw [if_pos c]; exact List.mem_cons_self ..
      · rw [if_neg c] at h ⊢; exact List.mem_cons_of_mem _ (ih h)
  exact (h1 _ (this s h)).1
/-- What a rule that can be undone says. -/
theorem rule_facts {a b : List S5} {r : RU} (h : ruleE r a b = 0) (hu : undoneE r a b = true) :
    (r.1 = 1 ∨ r.1 = 4 ∨ r.1 = 5) ∧ (findS r.2.1 a).2 = true ∧ (findS r.2.2.1 b).2 = true ∧ r.2.2.2.1 = ByteArray.mk #[] ∧ (r.1 ≠ 5 → r.2.2.2.2 = []) ∧
    (r.1 = 1 → wider (findS r.2.2.1 b).1 (findS r.2.1 a).1 = true ∧ wider (findS r.2.1 a).1 (findS r.2.2.1 b).1 = true) ∧
    (r.1 = 4 → padded (findS r.2.1 a).1 = true ∧ padded (findS r.2.2.1 b).1 = true ∧ (findS r.2.1 a).1.2.2.2.1 ≤ (findS r.2.2.1 b).1.2.2.2.1) ∧
    (r.1 = 5 → tableE r.2.2.2.2 (findS r.2.1 a).1 (findS r.2.2.1 b).1 = 0 ∧ bijP r.2.2.2.2 = true) := by
  have hk : r.1 = 1 ∨ r.1 = 4 ∨ r.1 = 5 := by
    unfold undoneE at hu
    by_cases k1 : r.1 = 1
    · exact .inl k1
    by_cases k4 : r.1 = 4
    · exact .inr (.inl k4)
    by_cases k5 : r.1 = 5
    · exact .inr (.inr k5)
    rw [if_neg k1, if_neg k4, if_neg k5] at hu; cases hu
  unfold ruleE at h
  rw [if_neg (by omega)] at h
  by_cases c2 : (endsE r a b).2.2 ≠ 0
  · rw [if_pos c2] at h; exact absurd h c2
  rw [if_neg c2] at h
  have hf : (findS r.2.1 a).2 = true ∧ (findS r.2.2.1 b).2 = true := by
    unfold endsE at c2
    dsimp only at c2
    rw [if_neg (by omega : ¬ r.1 = 3), if_neg (by omega : ¬ r.1 = 2)] at c2
    by_cases q : (findS r.2.1 a).2 = true ∧ (findS r.2.2.1 b).2 = true
    · exact q
    · rw [if_neg q] at c2; exact absurd (by decide) c2
  by_cases c3 : (r.2.2.2.1 ≠ ByteArray.mk #[] ∧ r.1 ≠ 3) ∨ (0 < r.2.2.2.2.length ∧ r.1 ≠ 5)
  · rw [if_pos c3] at h; cases h
  rw [if_neg c3] at h
  have e1 : (endsE r a b).1 = (findS r.2.1 a).1 := rfl
  have e2 : (endsE r a b).2.1 = (findS r.2.2.1 b).1 := rfl
  rw [e1, e2] at h
  have ht : r.2.2.2.1 = ByteArray.mk #[] := by
    by_cases q : r.2.2.2.1 = ByteArray.mk #[]
    · exact q
    · exact absurd (.inl ⟨q, by omega⟩) c3
  have hp : r.1 ≠ 5 → r.2.2.2.2 = [] := fun h5 => by
    rcases Nat.eq_zero_or_pos r.2.2.2.2.length with q | q
    · exact List.eq_nil_of_length_eq_zero q
    · exact absurd (.inr ⟨q, h5⟩) c3
  refine ⟨hk, hf.1, hf.2, ht, hp, fun k => ?_, fun k => ?_, fun k => ?_⟩
  · rw [if_pos k] at h
    unfold undoneE at hu
    rw [if_pos k, Bool.and_eq_true] at hu
    exact ⟨hu.2, hu.1⟩
  · rw [if_neg (by omega), if_neg (by omega), if_pos k] at h
    unfold undoneE at hu
    rw [if_neg (by omega), if_pos k, decide_eq_true_eq] at hu
    by_cases q : padded (findS r.2.1 a).1 = true ∧ padded (findS r.2.2.1 b).1 = true
    · exact ⟨q.1, q.2, hu⟩
    · rw [if_neg q] at h; cases h
  · rw [if_neg (by omega), if_neg (by omega), if_neg (by omega), if_pos k] at h
    unfold undoneE at hu
    rw [if_neg (by omega), if_neg (by omega), if_pos k] at hu
    exact ⟨h, hu⟩
theorem padded_ok {s : S5} (h : padded s = true) : s.2.1 = 1 ∧ s.2.2.1 = 1 := by
  unfold padded at h
  simpa using h
/-- A rule that can be undone, turned, may stand in the map that is turned. -/
theorem rule_turned {a b : List S5} {r : RU} (h : ruleE r a b = 0) (hu : undoneE r a b = true) : ruleE (turnR r) b a = 0 := by
  obtain ⟨hk, f1, f2, ht, hp, k1, k4, k5⟩ := rule_facts h hu
  unfold ruleE
  have e0 : (turnR r).1 = r.1 := rfl
  have e1 : (endsE (turnR r) b a).1 = (findS r.2.2.1 b).1 := rfl
  have e2 : (endsE (turnR r) b a).2.1 = (findS r.2.1 a).1 := rfl
  have e3 : (endsE (turnR r) b a).2.2 = 0 := by
    unfold endsE
    dsimp only
    rw [e0, if_neg (by omega : ¬ r.1 = 3), if_neg (by omega : ¬ r.1 = 2)]
    exact if_pos ⟨f2, f1⟩
  have e4 : (turnR r).2.2.2.1 = ByteArray.mk #[] := ht
  have e5 : r.1 ≠ 5 → (turnR r).2.2.2.2.length = 0 := fun q => by
    show (turnP r.2.2.2.2).length = 0
    rw [turnP_length, hp q]; rfl
  rw [e0, e1, e2, e3, e4, if_neg (by omega), if_neg (by decide), if_neg]
  · rcases hk with k | k | k
    · rw [if_pos k, if_pos (k1 k).2]
    · rw [if_neg (by omega), if_neg (by omega), if_pos k, if_pos ⟨(k4 k).2.1, (k4 k).1⟩]
    · rw [if_neg (by omega), if_neg (by omega), if_neg (by omega), if_pos k]
      obtain ⟨q1, q2⟩ := k5 k
      obtain ⟨j1, j2, j3⟩ := (tableE_ok _ _ _).1 q1
      obtain ⟨i1, i2, i3⟩ := bijP_ok q2
      refine (tableE_ok _ _ _).2 ⟨(pairsE_ok _).2 ⟨?_, ?_⟩, ?_, fun p hp => ?_⟩
      · show (turnP r.2.2.2.2).length ≤ 256
        rw [turnP_length]; exact i1
      · show ((turnP r.2.2.2.2).map Prod.fst).Nodup
        rw [turnP_fst]; exact i3
      · show (turnP r.2.2.2.2).length ≠ 0
        rw [turnP_length]; exact j2
      · obtain ⟨x, y⟩ := p
        have := j3 _ (mem_turnP.1 hp)
        exact ⟨this.2, this.1⟩
  · rintro (q | q)
    · exact q.1 rfl
    · exact absurd (e5 q.2) (by omega)
/-- What a rule makes of a right value is right, and the rule turned makes it what it was. -/
theorem rule_undo {a b : List S5} {va vb sa sb' : Int} (ha : (schemaE (sa, va, a)).1 = 0) (hb : (schemaE (sb', vb, b)).1 = 0) {r : RU} (h : ruleE r a b = 0) (hu : undoneE r a b = true) {t : ByteArray} (ht : specA (findS r.2.1 a).1 (bl t) = 0) {z : V} (hz : applyR r b t = (z, 0)) :
    z.1 = r.2.2.1 ∧ specA (findS r.2.2.1 b).1 (bl z.2) = 0 ∧ applyR (turnR r) a z.2 = ((r.2.1, t), 0) := by
  obtain ⟨hk, f1, f2, -, -, k1, k4, k5⟩ := rule_facts h hu
  unfold applyR at hz ⊢
  have e0 : (turnR r).1 = r.1 := rfl
  have e1 : (turnR r).2.2.1 = r.2.1 := rfl
  have e2 : (turnR r).2.2.2.2 = turnP r.2.2.2.2 := rfl
  rw [e0, e1, e2]
  rcases hk with k | k | k
  · rw [if_pos k] at hz ⊢
    cases hz
    exact ⟨rfl, keepsA (k1 k).1 ht, rfl⟩
  · rw [if_neg (by omega), if_neg (by omega), if_neg (by omega), if_pos k] at hz ⊢
    rw [if_neg (by rw [f2]; simp)] at hz
    rw [if_neg (by rw [f1]; simp)]
    obtain ⟨p1, p2, p3⟩ := k4 k
    obtain ⟨a1, a2⟩ := padded_ok p1
    obtain ⟨b1, b2⟩ := padded_ok p2
    have sa0 := specE_zero (specE_of ha f1)
    have sbE := specE_of hb f2
    have sb0 := specE_zero sbE
    have g := specV_zero ht
    generalize (findS r.2.1 a).1 = p at *
    generalize (findS r.2.2.1 b).1 = q at *
    obtain ⟨g1, g2, g3, g4⟩ := g
    rw [a1, all_one] at g4
    obtain ⟨l, rfl⟩ : ∃ l, t = sb l := ⟨bl t, (sb_bl t).symm⟩
    rw [bl_sb] at hz g2 g3 g4
    obtain ⟨m, hm⟩ : ∃ m : Nat, q.2.2.2.1 = (m : Int) := ⟨q.2.2.2.1.toNat, by omega⟩
    have hlen : (l.length : Int) = p.2.2.2.1 := by omega
    have hl0 : l ≠ [] := fun e => by rw [e] at hlen; simp at hlen; omega
    have pt := pad_there hl0 (show l.length ≤ m by omega) (by omega) g4
    rw [hm, pt, if_neg (by simp)] at hz
    cases hz
    refine ⟨rfl, ?_, ?_⟩
    · dsimp only
      rw [bl_sb]
      unfold specA specV
      rw [if_neg (not_not_intro sbE), if_neg (by rw [List.length_append, List.length_replicate]; omega), if_neg, if_neg (by omega)]
      rw [b1, all_one, List.all_append, g4, List.all_replicate]
      have : dig 48 = true := by decide
      rw [this]; simp
    · dsimp only
      rw [bl_sb, ← hlen, pad_back hl0 (by omega) g4, if_neg (by simp)]
  · rw [if_neg (by omega), if_neg (by omega), if_neg (by omega), if_neg (by omega), if_pos k] at hz ⊢
    obtain ⟨q1, q2⟩ := k5 k
    obtain ⟨-, -, j3⟩ := (tableE_ok _ _ _).1 q1
    obtain ⟨i1, i2, i3⟩ := bijP_ok q2
    by_cases c : (applyP t r.2.2.2.2).2 = false
    · rw [if_pos c] at hz; cases hz
    rw [if_neg c] at hz
    have hm := applyP_mem (show (applyP t r.2.2.2.2).2 = true by simpa using c)
    cases hz
    refine ⟨rfl, (j3 _ hm).2, ?_⟩
    have hb := applyP_of (mem_turnP.2 hm) (by rw [turnP_fst]; exact i3)
    dsimp only
    rw [hb, if_neg (by simp)]
end Go.Proofs.YtkaihbkfobiejaaGreatDoor.Sp

/- Maps by which nothing gets lost: all of a map. -/
namespace Go.Proofs.YtkaihbkfobiejaaGreatDoor.Sp
open Go Go.RowKit
set_option linter.unusedVariables false
set_option linter.unusedSimpArgs false
theorem nodup_inj {α β : Type} {f : α → β} : ∀ {l : List α} {x y : α}, (l.map f).Nodup → x ∈ l → y ∈ l → f x = f y → x = y
  | [], _, _, _, h, _, _ => by cases h
  | a :: l, x, y, hn, hx, hy, e => by
    rw [List.map_cons, List.nodup_cons] at hn
    rcases List.mem_cons.1 hx with rfl | hx'
    · rcases List.mem_cons.1 hy with rfl | hy
      · rfl
      · exact absurd (List.mem_map.2 ⟨y, hy, e.symm⟩) hn.1
    · rcases List.mem_cons.1 hy with h | hy
      · exact absurd (List.mem_map.2 ⟨x, hx', e.trans (congrArg f h)⟩) hn.1
      · exact nodup_inj hn.2 hx' hy e
theorem mtisL_ok (v w : Int) : ∀ (l : List PB) (seen : List ByteArray) (i : Nat), mtisL v w l seen i = none ↔ (∀ p ∈ l, typedP p v w = true ∧ p.1 ∉ seen) ∧ (l.map Prod.fst).Nodup
  | [], seen, i => ⟨fun _ => ⟨fun _ hp => (by cases hp), .nil⟩, fun _ => rfl⟩
  | p :: l, seen, i => by
    rw [mtisL]
    cases c0 : typedP p v w
    · rw [if_pos rfl]
      exact ⟨fun h => (by cases h), fun h => (by have := (h.1 p (List.mem_cons_self ..)).1; rw [c0] at this; cases this)⟩
    rw [if_neg (by simp)]
    by_cases c : p.1 ∈ seen
    · rw [if_pos c]
      exact ⟨fun h => (by cases h), fun h => absurd c (h.1 p (List.mem_cons_self ..)).2⟩
    · rw [if_neg c, mtisL_ok v w l _ (i + 1), List.map_cons, List.nodup_cons]
      constructor
      · rintro ⟨h1, h2⟩
        refine ⟨fun q hq => (List.mem_cons.1 hq).elim (fun e => by rw [e]; exact ⟨c0, c⟩) fun hq => ⟨(h1 q hq).1, fun hs => (h1 q hq).2 (List.mem_append_left _ hs)⟩, fun hm => ?_, h2⟩
        obtain ⟨q, hq, e⟩ := List.mem_map.1 hm
        exact (h1 q hq).2 (by rw [e]; exact List.mem_append_right _ (List.mem_cons_self ..))
      · rintro ⟨h1, h2, h3⟩
        refine ⟨fun q hq => ⟨(h1 q (List.mem_cons_of_mem _ hq)).1, fun hs => ?_⟩, h3⟩
        rcases List.mem_append.1 hs with hs | hs
        · exact (h1 q (List.mem_cons_of_mem _ hq)).2 hs
        · exact h2 (List.mem_map.2 ⟨q, hq, List.mem_singleton.1 hs⟩)
theorem mtisL_pos (v w : Int) : ∀ (l : List PB) (seen : List ByteArray) (i : Nat) (e : Int × Int × Int), mtisL v w l seen i = some e → e.1 ≠ 0
  | [], seen, i, e, h => by cases h
  | p :: l, seen, i, e, h => by
    rw [mtisL] at h
    by_cases c0 : typedP p v w = false
    · rw [if_pos c0] at h; cases h; exact (by decide : (7 : Int) ≠ 0)
    rw [if_neg c0] at h
    by_cases c : p.1 ∈ seen
    · rw [if_pos c] at h; cases h; exact (by decide : (10 : Int) ≠ 0)
    · rw [if_neg c] at h; exact mtisL_pos v w l _ _ e h
theorem typedP_turn {x y : ByteArray} {v w : Int} (h : typedP (x, y) v w = true) : typedP (y, x) w v = true := by
  unfold typedP at h ⊢
  simp only [Bool.and_eq_true, decide_eq_true_eq] at h ⊢
  exact ⟨h.2.1, h.1, h.2.2.2.1, h.2.2.1, h.2.2.2.2.symm⟩
def okNo (n : Int) : Prop := 1 ≤ n ∧ n ≤ 128
theorem bit_free {f : Nat × Nat} {n : Int} (hn : okNo n) : (f.1 &&& fb1 n = 0 ∧ f.2 &&& fb2 n = 0) ↔ fhas f.1 f.2 n = false := by
  obtain ⟨h1, h2⟩ := hn
  obtain ⟨k, rfl⟩ : ∃ k : Nat, n = (k : Int) := ⟨n.toNat, by omega⟩
  constructor
  · rintro ⟨e1, e2⟩
    rcases Nat.lt_or_ge 64 k with c | c
    · rw [fhas_low _ _ _ (by omega) (by omega)]
      have hb := b2_bit (k : Int) (k - 65) (by omega)
      rw [decide_eq_true (by omega), show 63 - (k - 65) = 128 - k by omega] at hb
      have := congrArg (fun x => Nat.testBit x (128 - k)) e2
      simp only [Nat.testBit_and, hb, Bool.and_true, Nat.zero_testBit] at this
      exact this
    · rw [fhas_high _ _ _ (by omega) c]
      have hb := b1_bit (k : Int) (k - 1) (by omega)
      rw [decide_eq_true (by omega), show 63 - (k - 1) = 64 - k by omega] at hb
      have := congrArg (fun x => Nat.testBit x (64 - k)) e1
      simp only [Nat.testBit_and, hb, Bool.and_true, Nat.zero_testBit] at this
      exact this
  · intro h
    rcases Nat.lt_or_ge 64 k with c | c
    · rw [fhas_low _ _ _ (by omega) (by omega)] at h
      refine ⟨?_, ?_⟩
      · apply Nat.eq_of_testBit_eq
        intro j
        rw [Nat.testBit_and, Nat.zero_testBit]
        rcases Nat.lt_or_ge j 64 with hj | hj
        · have hb := b1_bit (k : Int) (63 - j) (by omega)
          rw [decide_eq_false (by omega), show 63 - (63 - j) = j by omega] at hb
          rw [hb, Bool.and_false]
        · rw [Nat.testBit_lt_two_pow (Nat.lt_of_lt_of_le (fb1_lt _) (show 18446744073709551616 ≤ 2 ^ j from Nat.pow_le_pow_right (n := 2) (by decide) hj)), Bool.and_false]
      · apply Nat.eq_of_testBit_eq
        intro j
        rw [Nat.testBit_and, Nat.zero_testBit]
        rcases Nat.lt_or_ge j 64 with hj | hj
        · have hb := b2_bit (k : Int) (63 - j) (by omega)
          rw [show 63 - (63 - j) = j by omega] at hb
          rw [hb]
          by_cases e : j = 128 - k
          · rw [e, h]; rfl
          · rw [decide_eq_false (by omega), Bool.and_false]
        · rw [Nat.testBit_lt_two_pow (Nat.lt_of_lt_of_le (fb2_lt _) (show 18446744073709551616 ≤ 2 ^ j from Nat.pow_le_pow_right (n := 2) (by decide) hj)), Bool.and_false]
    · rw [fhas_high _ _ _ (by omega) c] at h
      refine ⟨?_, ?_⟩
      · apply Nat.eq_of_testBit_eq
        intro j
        rw [Nat.testBit_and, Nat.zero_testBit]
        rcases Nat.lt_or_ge j 64 with hj | hj
        · have hb := b1_bit (k : Int) (63 - j) (by omega)
          rw [show 63 - (63 - j) = j by omega] at hb
          rw [hb]
          by_cases e : j = 64 - k
          · rw [e, h]; rfl
          · rw [decide_eq_false (by omega), Bool.and_false]
        · rw [Nat.testBit_lt_two_pow (Nat.lt_of_lt_of_le (fb1_lt _) (show 18446744073709551616 ≤ 2 ^ j from Nat.pow_le_pow_right (n := 2) (by decide) hj)), Bool.and_false]
      · apply Nat.eq_of_testBit_eq
        intro j
        rw [Nat.testBit_and, Nat.zero_testBit]
        rcases Nat.lt_or_ge j 64 with hj | hj
        · have hb := b2_bit (k : Int) (63 - j) (by omega)
          rw [decide_eq_false (by omega), show 63 - (63 - j) = j by omega] at hb
          rw [hb, Bool.and_false]
        · rw [Nat.testBit_lt_two_pow (Nat.lt_of_lt_of_le (fb2_lt _) (show 18446744073709551616 ≤ 2 ^ j from Nat.pow_le_pow_right (n := 2) (by decide) hj)), Bool.and_false]
theorem has_or {f : Nat × Nat} {n m : Int} (hn : okNo n) (hm : okNo m) : fhas (f.1 ||| fb1 n) (f.2 ||| fb2 n) m = (fhas f.1 f.2 m || decide (m = n)) := by
  obtain ⟨h1, h2⟩ := hn
  obtain ⟨g1, g2⟩ := hm
  obtain ⟨k, rfl⟩ : ∃ k : Nat, m = (k : Int) := ⟨m.toNat, by omega⟩
  rcases Nat.lt_or_ge 64 k with c | c
  · rw [fhas_low _ _ _ (by omega) (by omega), fhas_low _ _ _ (by omega) (by omega), Nat.testBit_or]
    have hb := b2_bit n (k - 65) (by omega)
    rw [show 63 - (k - 65) = 128 - k by omega] at hb
    rw [hb]
    congr 1
    exact decide_eq_decide.2 (by omega)
  · rw [fhas_high _ _ _ (by omega) c, fhas_high _ _ _ (by omega) c, Nat.testBit_or]
    have hb := b1_bit n (k - 1) (by omega)
    rw [show 63 - (k - 1) = 64 - k by omega] at hb
    rw [hb]
    congr 1
    exact decide_eq_decide.2 (by omega)
theorem rulesL_rule (a b : List S5) : ∀ (l : List RU) (i : Nat) (f t : Nat × Nat), (rulesL a b l i f t).1 = 0 → ∀ r ∈ l, ruleE r a b = 0
  | [], i, f, t, h, r, hr => by cases hr
  | q :: l, i, f, t, h, r, hr => by
    rw [rulesL] at h
    by_cases c1 : ruleE q a b ≠ 0
    · rw [if_pos c1] at h; exact absurd h c1
    rw [if_neg c1] at h
    by_cases c2 : ¬ (f.1 &&& fb1 q.2.1 = 0 ∧ f.2 &&& fb2 q.2.1 = 0)
    · rw [if_pos c2] at h; cases h
    rw [if_neg c2] at h
    by_cases c3 : ¬ (t.1 &&& fb1 q.2.2.1 = 0 ∧ t.2 &&& fb2 q.2.2.1 = 0)
    · rw [if_pos c3] at h; cases h
    rw [if_neg c3] at h
    rcases List.mem_cons.1 hr with rfl | hr
    · exact Decidable.not_not.1 c1
    · exact rulesL_rule a b l _ _ _ h r hr
theorem rulesL_ok (a b : List S5) : ∀ (l : List RU) (i : Nat) (f t : Nat × Nat), (∀ r ∈ l, okNo r.2.1 ∧ okNo r.2.2.1) → (∀ r ∈ l, ruleE r a b = 0) →
    ((rulesL a b l i f t).1 = 0 ↔ (∀ r ∈ l, fhas f.1 f.2 r.2.1 = false ∧ fhas t.1 t.2 r.2.2.1 = false) ∧ (l.map fun r => r.2.1).Nodup ∧ (l.map fun r => r.2.2.1).Nodup)
  | [], i, f, t, _, _ => ⟨fun _ => ⟨fun _ hp => (by cases hp), .nil, .nil⟩, fun _ => rfl⟩
  | q :: l, i, f, t, hn, hr => by
    have hn1 := fun r hr => hn r (List.mem_cons_of_mem _ hr)
    have hr1 := fun r h => hr r (List.mem_cons_of_mem _ h)
    obtain ⟨n1, n2⟩ := hn q (List.mem_cons_self ..)
    rw [rulesL, if_neg (not_not_intro (hr q (List.mem_cons_self ..)))]
    have b1 := bit_free (f := f) n1
    have b2 := bit_free (f := t) n2
    by_cases c2 : ¬ (f.1 &&& fb1 q.2.1 = 0 ∧ f.2 &&& fb2 q.2.1 = 0)
    · rw [if_pos c2]
      exact ⟨fun h => (by cases h), fun h => absurd (b1.2 (h.1 q (List.mem_cons_self ..)).1) c2⟩
    rw [if_neg c2]
    by_cases c3 : ¬ (t.1 &&& fb1 q.2.2.1 = 0 ∧ t.2 &&& fb2 q.2.2.1 = 0)
    · rw [if_pos c3]
      exact ⟨fun h => (by cases h), fun h => absurd (b2.2 (h.1 q (List.mem_cons_self ..)).2) c3⟩
    rw [if_neg c3, rulesL_ok a b l _ _ _ hn1 hr1, List.map_cons, List.map_cons, List.nodup_cons, List.nodup_cons]
    dsimp only
    constructor
    · rintro ⟨h1, h2, h3⟩
      refine ⟨fun r hr => ?_, ⟨fun hm => ?_, h2⟩, ⟨fun hm => ?_, h3⟩⟩
      · rcases List.mem_cons.1 hr with rfl | hr
        · exact ⟨b1.1 (Decidable.not_not.1 c2), b2.1 (Decidable.not_not.1 c3)⟩
        · obtain ⟨k1, k2⟩ := h1 r hr
          rw [has_or n1 (hn1 r hr).1, Bool.or_eq_false_iff] at k1
          rw [has_or n2 (hn1 r hr).2, Bool.or_eq_false_iff] at k2
          exact ⟨k1.1, k2.1⟩
      · obtain ⟨r, hr, e⟩ := List.mem_map.1 hm
        have k1 := (h1 r hr).1
        rw [has_or n1 (hn1 r hr).1, Bool.or_eq_false_iff] at k1
        exact absurd e (of_decide_eq_false k1.2)
      · obtain ⟨r, hr, e⟩ := List.mem_map.1 hm
        have k2 := (h1 r hr).2
        rw [has_or n2 (hn1 r hr).2, Bool.or_eq_false_iff] at k2
        exact absurd e (of_decide_eq_false k2.2)
    · rintro ⟨h1, ⟨h2, h3⟩, h4, h5⟩
      refine ⟨fun r hr => ⟨?_, ?_⟩, h3, h5⟩
      · rw [has_or n1 (hn1 r hr).1, (h1 r (List.mem_cons_of_mem _ hr)).1, Bool.false_or]
        exact decide_eq_false fun e => h2 (List.mem_map.2 ⟨r, hr, e⟩)
      · rw [has_or n2 (hn1 r hr).2, (h1 r (List.mem_cons_of_mem _ hr)).2, Bool.false_or]
        exact decide_eq_false fun e => h4 (List.mem_map.2 ⟨r, hr, e⟩)
theorem no_of {a b : Int} {s : List S5} (hs : (schemaE (a, b, s)).1 = 0) {n : Int} (h : (findS n s).2 = true) : 2 ≤ n ∧ n ≤ 128 := by
  have h1 := (specE_zero (specE_of hs h)).1
  rw [findS_no h] at h1; exact h1
theorem has_none (n : Int) : fhas 0 0 n = false := by unfold fhas; simp
/-- What is known of a map by which nothing gets lost. -/
structure Lossless (m : RC) (a b : Int × Int × List S5) : Prop where
  sa : (schemaE a).1 = 0
  sb : (schemaE b).1 = 0
  typ : ∀ p ∈ m.1, typedP p a.2.1 b.2.1 = true
  len : m.1.length ≤ 256
  fst : (m.1.map Prod.fst).Nodup
  snd : (m.1.map Prod.snd).Nodup
  rlen : m.2.length ≤ 256
  rule : ∀ r ∈ m.2, ruleE r a.2.2 b.2.2 = 0
  undo : ∀ r ∈ m.2, undoneE r a.2.2 b.2.2 = true
  frm : (m.2.map fun r => r.2.1).Nodup
  to : (m.2.map fun r => r.2.2.1).Nodup
theorem lossless_of {m : RC} {a b : Int × Int × List S5} (h : invE m a b = true) : Lossless m a b := by
  unfold invE at h
  rw [Bool.and_eq_true, Bool.and_eq_true, decide_eq_true_eq, List.all_eq_true] at h
  obtain ⟨h1, h2, h3⟩ := h
  obtain ⟨-, j2, j3⟩ := bijP_ok h2
  unfold mapE at h1
  by_cases c1 : (schemaE a).1 ≠ 0
  · rw [if_pos c1] at h1; cases h1
  rw [if_neg c1] at h1
  by_cases c2 : (schemaE b).1 ≠ 0
  · rw [if_pos c2] at h1; cases h1
  rw [if_neg c2] at h1
  by_cases c3 : 256 < m.1.length
  · rw [if_pos c3] at h1; cases h1
  rw [if_neg c3] at h1
  have c1 := Decidable.not_not.1 c1
  have c2 := Decidable.not_not.1 c2
  split at h1
  · rename_i e he
    exact absurd h1 (mtisL_pos _ _ _ _ _ _ he)
  · rename_i he
    obtain ⟨t1, t2⟩ := (mtisL_ok _ _ _ _ _).1 he
    by_cases c4 : 256 < m.2.length
    · rw [if_pos c4] at h1; cases h1
    rw [if_neg c4] at h1
    have hr := rulesL_rule _ _ _ _ _ _ h1
    have hno : ∀ r ∈ m.2, okNo r.2.1 ∧ okNo r.2.2.1 := fun r hm => by
      obtain ⟨-, f1, f2, -⟩ := rule_facts (hr r hm) (h3 r hm)
      have n1 := no_of (a := a.1) (b := a.2.1) c1 f1
      have n2 := no_of (a := b.1) (b := b.2.1) c2 f2
      exact ⟨⟨by omega, n1.2⟩, by omega, n2.2⟩
    obtain ⟨-, r2, r3⟩ := (rulesL_ok _ _ _ _ _ _ hno hr).1 h1
    exact ⟨c1, c2, fun p hp => (t1 p hp).1, by omega, j2, j3, by omega, hr, h3, r2, r3⟩
/-- The map turned may be a map from the other schema. -/
theorem Lossless.turned {m : RC} {a b : Int × Int × List S5} (h : Lossless m a b) : (mapE (turnM m) b a).1 = 0 := by
  unfold mapE
  rw [if_neg (not_not_intro h.sb), if_neg (not_not_intro h.sa), if_neg (show ¬ 256 < (turnM m).1.length by rw [show (turnM m).1 = turnP m.1 from rfl, turnP_length]; have := h.len; omega)]
  have h1 : mtisL b.2.1 a.2.1 (turnM m).1 [] 0 = none := (mtisL_ok _ _ _ _ _).2 ⟨fun p hp => by
    obtain ⟨x, y⟩ := p
    exact ⟨typedP_turn (h.typ _ (mem_turnP.1 hp)), fun hs => by cases hs⟩, by
    show ((turnP m.1).map Prod.fst).Nodup
    rw [turnP_fst]; exact h.snd⟩
  rw [h1]
  dsimp only
  rw [if_neg (show ¬ 256 < (turnM m).2.length by rw [show (turnM m).2 = m.2.map turnR from rfl, List.length_map]; have := h.rlen; omega)]
  have hr : ∀ r ∈ m.2.map turnR, ruleE r b.2.2 a.2.2 = 0 := fun r hm => by
    obtain ⟨q, hq, rfl⟩ := List.mem_map.1 hm
    exact rule_turned (h.rule q hq) (h.undo q hq)
  have hno : ∀ r ∈ m.2.map turnR, okNo r.2.1 ∧ okNo r.2.2.1 := fun r hm => by
    obtain ⟨q, hq, rfl⟩ := List.mem_map.1 hm
    obtain ⟨-, f1, f2, -⟩ := rule_facts (h.rule q hq) (h.undo q hq)
    have n1 := no_of (a := a.1) (b := a.2.1) h.sa f1
    have n2 := no_of (a := b.1) (b := b.2.1) h.sb f2
    exact ⟨⟨by show 1 ≤ q.2.2.1; omega, n2.2⟩, by show 1 ≤ q.2.1; omega, n1.2⟩
  refine (rulesL_ok _ _ _ _ _ _ hno hr).2 ⟨fun r _ => ⟨has_none _, has_none _⟩, ?_, ?_⟩
  · rw [List.map_map]; exact h.to
  · rw [List.map_map]; exact h.frm
theorem ruleOf_mem {n : Int} : ∀ {l : List RU}, (ruleOf n l).2 = true → (ruleOf n l).1 ∈ l ∧ (ruleOf n l).1.2.1 = n
  | [], h => by cases h
  | r :: l, h => by
    rw [ruleOf] at h ⊢
    by_cases c : r.2.1 = n
    · rw [if_pos c]; exact ⟨List.mem_cons_self .., c⟩
    · rw [if_neg c] at h ⊢
      exact ⟨List.mem_cons_of_mem _ (ruleOf_mem h).1, (ruleOf_mem h).2⟩
theorem ruleOf_of {r : RU} : ∀ {l : List RU}, r ∈ l → (l.map fun r => r.2.1).Nodup → ruleOf r.2.1 l = (r, true)
  | [], h, _ => by cases h
  | q :: l, h, hn => by
    rw [List.map_cons, List.nodup_cons] at hn
    rw [ruleOf]
    rcases List.mem_cons.1 h with rfl | h
    · rw [if_pos rfl]
    · rw [if_neg (fun e => hn.1 (List.mem_map.2 ⟨r, h, e.symm⟩))]
      exact ruleOf_of h hn.2
theorem mem_insV {n : Int} {x : ByteArray} {w : V} : ∀ {l : List V}, w ∈ insV n x l ↔ w = (n, x) ∨ w ∈ l
  | [] => by rw [insV]; simp
  | v :: l => by
    rw [insV]
    split
    · exact List.mem_cons
    · rw [List.mem_cons, mem_insV, List.mem_cons]
      exact ⟨fun h => h.elim (fun h => .inr (.inl h)) fun h => h.elim .inl fun h => .inr (.inr h), fun h => h.elim (fun h => .inr (.inl h)) fun h => h.elim .inl fun h => .inr (.inr h)⟩
theorem mem_withV {n : Int} {x : ByteArray} {w : V} {l : List V} (hn : ∀ v ∈ l, v.1 ≠ n) : w ∈ withV n x l ↔ w = (n, x) ∨ w ∈ l := by
  unfold withV
  rw [mem_insV]
  unfold without
  rw [List.mem_filter]
  exact or_congr Iff.rfl ⟨fun h => h.1, fun h => ⟨h, decide_eq_true (hn w h)⟩⟩
/-- What is put field by field. -/
theorem fold_with {s : List S5} (img : V → V) : ∀ (g o : List V), Rise s 0 o → (∀ v ∈ g, rightV s (img v) ∧ ∀ w ∈ o, w.1 ≠ (img v).1) → (g.map fun v => (img v).1).Nodup →
    Rise s 0 (g.foldl (fun o v => withV (img v).1 (img v).2 o) o) ∧ ∀ w, w ∈ g.foldl (fun o v => withV (img v).1 (img v).2 o) o ↔ w ∈ o ∨ ∃ v ∈ g, w = img v
  | [], o, ho, _, _ => ⟨ho, fun w => ⟨fun h => .inl h, fun h => h.elim id fun ⟨v, hv, _⟩ => by cases hv⟩⟩
  | v :: g, o, ho, hr, hn => by
    rw [List.map_cons, List.nodup_cons] at hn
    obtain ⟨r1, r2⟩ := hr v (List.mem_cons_self ..)
    have hno := rightV_no r1
    have h1 : Rise s 0 (withV (img v).1 (img v).2 o) := ho.withV (by omega) r1
    obtain ⟨k1, k2⟩ := fold_with img g (withV (img v).1 (img v).2 o) h1 (fun u hu => ⟨(hr u (List.mem_cons_of_mem _ hu)).1, fun w hw => by
      rcases (mem_withV r2).1 hw with rfl | hw
      · exact fun e => hn.1 (List.mem_map.2 ⟨u, hu, e.symm⟩)
      · exact (hr u (List.mem_cons_of_mem _ hu)).2 w hw⟩) hn.2
    rw [List.foldl_cons]
    refine ⟨k1, fun w => ?_⟩
    rw [k2, mem_withV r2]
    constructor
    · rintro ((rfl | h) | ⟨u, hu, e⟩)
      · exact .inr ⟨v, List.mem_cons_self .., rfl⟩
      · exact .inl h
      · exact .inr ⟨u, List.mem_cons_of_mem _ hu, e⟩
    · rintro (h | ⟨u, hu, e⟩)
      · exact .inl (.inr h)
      · rcases List.mem_cons.1 hu with rfl | hu
        · exact .inl (.inl e)
        · exact .inr ⟨u, hu, e⟩
theorem asc_same : ∀ {l m : List V}, l.Pairwise (fun x y => x.1 < y.1) → m.Pairwise (fun x y => x.1 < y.1) → (∀ w, w ∈ l ↔ w ∈ m) → l = m
  | [], [], _, _, _ => rfl
  | [], w :: m, _, _, h => by have := (h w).2 (List.mem_cons_self ..); cases this
  | v :: l, [], _, _, h => by have := (h v).1 (List.mem_cons_self ..); cases this
  | v :: l, w :: m, hl, hm, h => by
    rw [List.pairwise_cons] at hl hm
    have e : v = w := by
      rcases List.mem_cons.1 ((h v).1 (List.mem_cons_self ..)) with e | h1
      · exact e
      · rcases List.mem_cons.1 ((h w).2 (List.mem_cons_self ..)) with e | h2
        · exact e.symm
        · have := hm.1 v h1; have := hl.1 w h2; omega
    subst e
    congr 1
    refine asc_same hl.2 hm.2 fun w => ⟨fun hw => ?_, fun hw => ?_⟩
    · rcases List.mem_cons.1 ((h w).1 (List.mem_cons_of_mem _ hw)) with e | h1
      · subst e; have := hl.1 w hw; omega
      · exact h1
    · rcases List.mem_cons.1 ((h w).2 (List.mem_cons_of_mem _ hw)) with e | h1
      · subst e; have := hm.1 w hw; omega
      · exact h1
theorem rise_asc {s : List S5} : ∀ {l : List V} {p : Int}, Rise s p l → l.Pairwise (fun x y => x.1 < y.1) ∧ ∀ v ∈ l, p < v.1
  | [], p, _ => ⟨.nil, fun _ h => by cases h⟩
  | v :: l, p, h => by
    cases h with
    | cons a b c =>
      obtain ⟨h1, h2⟩ := rise_asc c
      exact ⟨.cons (fun w hw => h2 w hw) h1, fun w hw => (List.mem_cons.1 hw).elim (fun e => by rw [e]; exact a) fun hw => by have := h2 w hw; omega⟩
end Go.Proofs.YtkaihbkfobiejaaGreatDoor.Sp

/- Maps by which nothing gets lost: there and back. -/
namespace Go.Proofs.YtkaihbkfobiejaaGreatDoor.Sp
open Go Go.RowKit
set_option linter.unusedVariables false
set_option linter.unusedSimpArgs false
/-- What the fields become, by a map's rules. -/
def trP (l : List RU) (b : List S5) (t : ByteArray) : List V → List V → (ByteArray × List V) × Int × Int
  | [], o => ((t, o), 0, 0)
  | v :: m, o => if (ruleOf v.1 l).2 = false then ((ByteArray.mk #[], []), 9, v.1) else if ¬ (applyR (ruleOf v.1 l).1 b v.2).2 = 0 then ((ByteArray.mk #[], []), (applyR (ruleOf v.1 l).1 b v.2).2, v.1) else if ¬ (applyR (ruleOf v.1 l).1 b v.2).1.1 = 0 then trP l b t m (withV (applyR (ruleOf v.1 l).1 b v.2).1.1 (applyR (ruleOf v.1 l).1 b v.2).1.2 o) else trP l b t m o
def imgV (l : List RU) (b : List S5) (v : V) : V := (applyR (ruleOf v.1 l).1 b v.2).1
theorem trP_ok {l : List RU} {b : List S5} {t : ByteArray} : ∀ (g o : List V), (trP l b t g o).2.1 = 0 → ∀ v ∈ g, (ruleOf v.1 l).2 = true ∧ applyR (ruleOf v.1 l).1 b v.2 = (imgV l b v, 0)
  | [], o, _, v, hv => by cases hv
  | u :: g, o, h, v, hv => by
    rw [trP] at h
    by_cases c1 : (ruleOf u.1 l).2 = false
    · rw [if_pos c1] at h; cases h
    rw [if_neg c1] at h
    by_cases c2 : ¬ (applyR (ruleOf u.1 l).1 b u.2).2 = 0
    · rw [if_pos c2] at h; exact absurd h c2
    rw [if_neg c2] at h
    rcases List.mem_cons.1 hv with rfl | hv
    · exact ⟨by simpa using c1, Prod.ext rfl (Decidable.not_not.1 c2)⟩
    · split at h
      · exact trP_ok g _ h v hv
      · exact trP_ok g _ h v hv
theorem trP_of {l : List RU} {b : List S5} {t : ByteArray} : ∀ (g o : List V), (∀ v ∈ g, (ruleOf v.1 l).2 = true ∧ applyR (ruleOf v.1 l).1 b v.2 = (imgV l b v, 0) ∧ (imgV l b v).1 ≠ 0) → trP l b t g o = ((t, g.foldl (fun o v => withV (imgV l b v).1 (imgV l b v).2 o) o), 0, 0)
  | [], o, _ => rfl
  | u :: g, o, h => by
    obtain ⟨h1, h2, h3⟩ := h u (List.mem_cons_self ..)
    rw [trP, if_neg (by rw [h1]; simp), h2, if_neg (fun q => q rfl), if_pos h3, List.foldl_cons]
    exact trP_of g _ fun v hv => h v (List.mem_cons_of_mem _ hv)
theorem foldW_length (img : V → V) : ∀ (g o : List V), (g.foldl (fun o v => withV (img v).1 (img v).2 o) o).length ≤ o.length + g.length
  | [], o => by simp
  | v :: g, o => by
    rw [List.foldl_cons]
    have h1 := foldW_length img g (withV (img v).1 (img v).2 o)
    have h2 : ∀ (n : Int) (x : ByteArray) (l : List V), (insV n x l).length = l.length + 1 := by
      intro n x l
      induction l with
      | nil => rfl
      | cons a l ih =>
        rw [insV]
        split
        · rfl
        · rw [List.length_cons, ih, List.length_cons]
    have h3 : (withV (img v).1 (img v).2 o).length ≤ o.length + 1 := by
      unfold withV
      rw [h2]
      have := without_length (img v).1 o
      omega
    rw [List.length_cons]; omega
theorem nodup_map {α β : Type} {f : α → β} : ∀ {l : List α}, l.Nodup → (∀ x ∈ l, ∀ y ∈ l, f x = f y → x = y) → (l.map f).Nodup
  | [], _, _ => .nil
  | a :: l, h, hi => by
    rw [List.nodup_cons] at h
    rw [List.map_cons, List.nodup_cons]
    refine ⟨fun hm => ?_, nodup_map h.2 fun x hx y hy => hi x (List.mem_cons_of_mem _ hx) y (List.mem_cons_of_mem _ hy)⟩
    obtain ⟨x, hx, e⟩ := List.mem_map.1 hm
    have := hi x (List.mem_cons_of_mem _ hx) a (List.mem_cons_self ..) e
    subst this
    exact h.1 hx
theorem rise_nodup {s : List S5} {l : List V} {p : Int} (h : Rise s p l) : l.Nodup ∧ ∀ x ∈ l, ∀ y ∈ l, x.1 = y.1 → x = y := by
  obtain ⟨h1, -⟩ := rise_asc h
  have hn : (l.map Prod.fst).Nodup := by
    rw [List.nodup_iff_pairwise_ne, List.pairwise_map]
    exact h1.imp fun h e => by omega
  refine ⟨?_, fun x hx y hy e => nodup_inj hn hx hy e⟩
  rw [List.nodup_iff_pairwise_ne]
  exact h1.imp fun h e => by subst e; omega
/-- What all of a map makes of a right message is right, and the map turned makes it what it was. -/
theorem Lossless.back {m : RC} {a b : Int × Int × List S5} (h : Lossless m a b) {t : ByteArray} {g : List V} (hm : msgE a (bl t) g = (0, 0)) (ht : (applyP t m.1).2 = true)
    (hg : (trP m.2 b.2.2 (applyP t m.1).1 g []).2.1 = 0) :
    ∃ u l, trP m.2 b.2.2 (applyP t m.1).1 g [] = ((u, l), 0, 0) ∧ msgE b (bl u) l = (0, 0) ∧ l.length ≤ g.length ∧ applyP u (turnM m).1 = (t, true) ∧ trP (turnM m).2 a.2.2 t l [] = ((t, g), 0, 0) := by
  obtain ⟨⟨m1, m2, m3⟩, m4⟩ := (msgE_zero a (bl t) g).1.1 hm
  have hok := trP_ok g [] hg
  have mem := applyP_mem ht
  have fact : ∀ v ∈ g, (ruleOf v.1 m.2).1 ∈ m.2 ∧ (ruleOf v.1 m.2).1.2.1 = v.1 ∧ (imgV m.2 b.2.2 v).1 = (ruleOf v.1 m.2).1.2.2.1 ∧ rightV b.2.2 (imgV m.2 b.2.2 v) ∧ applyR (turnR (ruleOf v.1 m.2).1) a.2.2 (imgV m.2 b.2.2 v).2 = (v, 0) := fun v hv => by
    obtain ⟨k1, k2⟩ := hok v hv
    obtain ⟨r1, r2⟩ := ruleOf_mem k1
    obtain ⟨-, q2⟩ := m4.mem hv
    have hr := h.rule _ r1
    have hu := h.undo _ r1
    obtain ⟨-, f1, f2, -⟩ := rule_facts hr hu
    obtain ⟨x1, x2, x3⟩ := rule_undo (a := a.2.2) (b := b.2.2) (va := a.2.1) (vb := b.2.1) (sa := a.1) (sb' := b.1) h.sa h.sb hr hu (t := v.2) (by rw [r2]; exact q2.2) k2
    refine ⟨r1, r2, x1, ⟨?_, ?_⟩, ?_⟩
    · rw [x1]; exact f2
    · have : specA (findS (imgV m.2 b.2.2 v).1 b.2.2).1 (bl (imgV m.2 b.2.2 v).2) = 0 := by rw [x1]; exact x2
      exact this
    · rw [x3, r2]
  have inj : ∀ x ∈ g, ∀ y ∈ g, (imgV m.2 b.2.2 x).1 = (imgV m.2 b.2.2 y).1 → x = y := fun x hx y hy e => by
    obtain ⟨a1, a2, a3, -⟩ := fact x hx
    obtain ⟨b1, b2, b3, -⟩ := fact y hy
    have e2 : (ruleOf x.1 m.2).1 = (ruleOf y.1 m.2).1 := nodup_inj h.to a1 b1 (by show (ruleOf x.1 m.2).1.2.2.1 = (ruleOf y.1 m.2).1.2.2.1; rw [← a3, ← b3, e])
    exact (rise_nodup m4).2 x hx y hy (by rw [← a2, ← b2, e2])
  have f1 := fold_with (s := b.2.2) (imgV m.2 b.2.2) g [] .nil (fun v hv => ⟨(fact v hv).2.2.2.1, fun w hw => by cases hw⟩) (nodup_map (rise_nodup m4).1 inj)
  have e1 := trP_of (l := m.2) (b := b.2.2) (t := (applyP t m.1).1) g [] fun v hv => ⟨(hok v hv).1, (hok v hv).2, by have := rightV_no (fact v hv).2.2.2.1; omega⟩
  generalize hl : g.foldl (fun o v => withV (imgV m.2 b.2.2 v).1 (imgV m.2 b.2.2 v).2 o) [] = l at f1 e1
  obtain ⟨f1, f2⟩ := f1
  have f2 : ∀ w, w ∈ l ↔ ∃ v ∈ g, w = imgV m.2 b.2.2 v := fun w => (f2 w).trans ⟨fun q => q.elim (fun q => by cases q) id, .inr⟩
  refine ⟨(applyP t m.1).1, l, e1, ?_, ?_, ?_, ?_⟩
  · have ty := h.typ _ mem
    unfold typedP at ty
    simp only [Bool.and_eq_true, decide_eq_true_eq] at ty
    exact (msgE_zero b _ l).1.2 ⟨⟨h.sb, ty.2.1, ty.2.2.2.1⟩, f1⟩
  · have := foldW_length (imgV m.2 b.2.2) g []
    rw [hl] at this
    simpa using this
  · exact applyP_of (mem_turnP.2 mem) (by rw [show (turnM m).1 = turnP m.1 from rfl, turnP_fst]; exact h.snd)
  · have back : ∀ v ∈ g, ruleOf (imgV m.2 b.2.2 v).1 (turnM m).2 = (turnR (ruleOf v.1 m.2).1, true) ∧ applyR (ruleOf (imgV m.2 b.2.2 v).1 (turnM m).2).1 a.2.2 (imgV m.2 b.2.2 v).2 = (v, 0) := fun v hv => by
      obtain ⟨k1, k2, k3, k4, k5⟩ := fact v hv
      have e : ruleOf (imgV m.2 b.2.2 v).1 (turnM m).2 = (turnR (ruleOf v.1 m.2).1, true) := by
        have := ruleOf_of (r := turnR (ruleOf v.1 m.2).1) (l := (turnM m).2) (List.mem_map.2 ⟨_, k1, rfl⟩) (by
          show ((m.2.map turnR).map fun r => r.2.1).Nodup
          rw [List.map_map]; exact h.to)
        rw [show (turnR (ruleOf v.1 m.2).1).2.1 = (ruleOf v.1 m.2).1.2.2.1 from rfl, ← k3] at this
        exact this
      refine ⟨e, ?_⟩
      rw [e]; exact k5
    have img' : ∀ v ∈ g, imgV (turnM m).2 a.2.2 (imgV m.2 b.2.2 v) = v := fun v hv => by
      unfold imgV at *
      rw [(back v hv).2]
    have i2 : ∀ x ∈ l, ∀ y ∈ l, (imgV (turnM m).2 a.2.2 x).1 = (imgV (turnM m).2 a.2.2 y).1 → x = y := fun x hx y hy e => by
      obtain ⟨v, hv, rfl⟩ := (f2 x).1 hx
      obtain ⟨w, hw, rfl⟩ := (f2 y).1 hy
      rw [img' v hv, img' w hw] at e
      rw [(rise_nodup m4).2 v hv w hw e]
    have g1 := fold_with (s := a.2.2) (imgV (turnM m).2 a.2.2) l [] .nil (fun w hw => by
      obtain ⟨v, hv, rfl⟩ := (f2 w).1 hw
      rw [img' v hv]
      exact ⟨(m4.mem hv).2, fun w hw => by cases hw⟩) (nodup_map (rise_nodup f1).1 i2)
    have e2 := trP_of (l := (turnM m).2) (b := a.2.2) (t := t) l [] fun w hw => by
      obtain ⟨v, hv, rfl⟩ := (f2 w).1 hw
      obtain ⟨b1, b2⟩ := back v hv
      refine ⟨by rw [b1], ?_, ?_⟩
      · rw [img' v hv]; exact b2
      · rw [img' v hv]; have := rightV_no (m4.mem hv).2; omega
    rw [e2]
    obtain ⟨g1, g2⟩ := g1
    rw [asc_same (rise_asc g1).1 (rise_asc m4).1 fun w => ?_]
    rw [g2]
    constructor
    · rintro (q | ⟨x, hx, rfl⟩)
      · cases q
      · obtain ⟨v, hv, rfl⟩ := (f2 x).1 hx
        rw [img' v hv]; exact hv
    · intro hw
      exact .inr ⟨imgV m.2 b.2.2 w, (f2 _).2 ⟨w, hw, rfl⟩, (img' w hw).symm⟩
theorem rise_size {s : List S5} (hs : ∃ a b, (schemaE (a, b, s)).1 = 0) {l : List V} {p : Int} (h : Rise s p l) : ∀ v ∈ l, v.2.size ≤ 999 := fun v hv => by
  obtain ⟨a, b, hs⟩ := hs
  obtain ⟨-, h1, h2⟩ := h.mem hv
  obtain ⟨g1, g2, g3, -⟩ := specV_zero h2
  have := specE_zero g1
  obtain ⟨y, e⟩ : ∃ y, v.2 = sb y := ⟨bl v.2, (sb_bl _).symm⟩
  rw [e, size_sb]
  rw [e, bl_sb] at g3
  omega
/-- No rule of such a map is a constant. -/
theorem Lossless.noConst {m : RC} {a b : Int × Int × List S5} (h : Lossless m a b) : ∀ r ∈ m.2, r.1 ≠ 3 := fun r hr => by
  obtain ⟨hk, -⟩ := rule_facts (h.rule r hr) (h.undo r hr)
  omega
end Go.Proofs.YtkaihbkfobiejaaGreatDoor.Sp
