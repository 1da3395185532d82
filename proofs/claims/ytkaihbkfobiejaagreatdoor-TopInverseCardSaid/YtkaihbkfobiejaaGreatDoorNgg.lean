import Derived.Test.YtkaihbkfobiejaaGreatDoorNgb
import Derived.Test.YtkaihbkfobiejaaGreatDoorNgc
import Derived.Test.YtkaihbkfobiejaaGreatDoorNge
/- What the program's Wider answers. -/
namespace Go.Proofs.YtkaihbkfobiejaaGreatDoor.Sp
open Go Go.RowKit
set_option linter.unusedVariables false
set_option linter.unusedSimpArgs false
def widC (a b : Int) : Bool := decide (1 ≤ a ∧ a ≤ 6) && (decide (1 ≤ b ∧ b ≤ 6) && (Go.bits .andNot .i64 (setsC b) (setsC a) == 0))
/-- A wider class has all that the other one has. -/
theorem wid256 : ∀ (a b : Fin 6) (n : Fin 256), widC ((a.val + 1 : Nat) : Int) ((b.val + 1 : Nat) : Int) = true → inN ((b.val + 1 : Nat) : Int) ((n.val : Nat) : Int) = true → inN ((a.val + 1 : Nat) : Int) ((n.val : Nat) : Int) = true := by decide +kernel
theorem wid_range {a b : Int} (h : widC a b = true) : (1 ≤ a ∧ a ≤ 6) ∧ (1 ≤ b ∧ b ≤ 6) := by
  simp only [widC, Bool.and_eq_true, decide_eq_true_eq] at h
  exact ⟨h.1, h.2.1⟩
theorem wid_in {a b : Int} (h : widC a b = true) (x : UInt8) (hx : inC b x = true) : inC a x = true := by
  obtain ⟨ha, hb⟩ := wid_range h
  obtain ⟨m, rfl⟩ : ∃ m : Fin 6, a = ((m.val + 1 : Nat) : Int) := ⟨⟨(a - 1).toNat, by omega⟩, by simp; omega⟩
  obtain ⟨n, rfl⟩ : ∃ m : Fin 6, b = ((m.val + 1 : Nat) : Int) := ⟨⟨(b - 1).toNat, by omega⟩, by simp; omega⟩
  exact wid256 m n ⟨x.toNat, u8_lt x⟩ h hx
end Go.Proofs.YtkaihbkfobiejaaGreatDoor.Sp

/- Which specs are wider than others. -/
namespace Go.Proofs.YtkaihbkfobiejaaGreatDoor.Sp
open Go Go.RowKit
set_option linter.unusedVariables false
set_option linter.unusedSimpArgs false
def specC (a b : Int) : Bool := if a = 5 then true else if a = 6 ∨ b = 6 then a == b else widC a b
def specW (no c fo mi ma no' c' fo' mi' ma' : Int) : Bool :=
  decide (specE no c fo mi ma = 0 ∧ specE no' c' fo' mi' ma' = 0 ∧ mi ≤ mi' ∧ ma' ≤ ma) && specC c c'
/-- What may be a value of a class may be one of a wider class. -/
theorem specC_in {a b : Int} (hb : 1 ≤ b ∧ b ≤ 6) (h : specC a b = true) (x : UInt8) (hx : inC b x = true) : inC a x = true := by
  unfold specC at h
  by_cases h1 : a = 5
  · subst h1; simp [inC, inN]
  · rw [if_neg h1] at h
    by_cases h2 : a = 6 ∨ b = 6
    · rw [if_pos h2] at h
      rw [beq_iff_eq.1 h]; exact hx
    · rw [if_neg h2] at h
      exact wid_in h x hx
theorem specC_six {a b : Int} (h : specC a b = true) (ha : a = 6) : b = 6 := by
  unfold specC at h
  rw [if_neg (by omega), if_pos (.inl ha)] at h
  rw [← beq_iff_eq.1 h]; exact ha
end Go.Proofs.YtkaihbkfobiejaaGreatDoor.Sp

/- Refusals, in plain words. -/
namespace Go.Proofs.YtkaihbkfobiejaaGreatDoor.Sp
open Go Go.RowKit
set_option linter.unusedVariables false
set_option linter.unusedSimpArgs false
abbrev RC := List (ByteArray × ByteArray) × List (Int × Int × Int × ByteArray × List (ByteArray × ByteArray))
abbrev RJ := (Int × Int × List S5) × RC × List Int × List V
/-- The code for a reason. -/
def codeV (n : Int) (l : List V) : ByteArray := if (getV n l).2 = true then (getV n l).1 else (getV 0 l).1
def echoE (s : List S5) : List Int → Nat → List Int → Option (Int × Int × Int)
  | _, _, [] => none
  | b, i, x :: m => if (findS x s).2 = false then some (9, 2, (i : Int)) else if x = 39 then some (1, 2, (i : Int)) else if x ∈ b then some (10, 2, (i : Int)) else echoE s (b ++ [x]) (i + 1) m
def specA (p : S5) (l : List UInt8) : Int := specV p.1 p.2.1 p.2.2.1 p.2.2.2.1 p.2.2.2.2 l
def codesE (p : S5) : List V → Nat → List V → Option (Int × Int × Int)
  | _, _, [] => none
  | b, i, v :: m => if v.1 < 0 ∨ 16 < v.1 then some (1, 3, (i : Int)) else if v.1 ∈ b.map Prod.fst then some (10, 3, (i : Int)) else if specA p (bl v.2) ≠ 0 then some (specA p (bl v.2), 3, (i : Int)) else codesE p (b ++ [v]) (i + 1) m
/-- What is wrong with a way to refuse. -/
def rejE (x : RJ) : Int × Int × Int :=
  if (schemaE x.1).1 ≠ 0 then (1, 1, 0) else if (findS 39 x.1.2.2).2 = false then (9, 1, 1) else
    match echoE x.1.2.2 [] 0 x.2.2.1 with
    | some e => e
    | none => match codesE (findS 39 x.1.2.2).1 [] 0 x.2.2.2 with
      | some e => e
      | none => if (0 : Int) ∈ x.2.2.2.map Prod.fst then (0, 0, 0) else (15, 3, (x.2.2.2.length : Int))
/-- The response to a request. -/
def answer (t : List UInt8) : List UInt8 := [t.getD 0 0, t.getD 1 0, u8 ((t.getD 2 0).toNat + 1), t.getD 3 0]
/-- What is echoed of a message. -/
def echoed (l : List V) : List Int → List V → List V
  | [], o => o
  | x :: m, o => echoed l m (if (getV x l).2 = true then withV x (getV x l).1 o else o)
def rejB (x : RJ) (t : List UInt8) (l : List V) (why : Int) : (ByteArray × List V) × Bool :=
  if asks t = true then ((sb (answer t), withV 39 (codeV why x.2.2.2) (echoed l x.2.2.1 [])), true) else ((sb [], []), false)
def greatR (x : RJ) : Bool := decide (200 < x.1.2.2.length) || decide (300 < x.2.2.1.length) || decide (300 < x.2.2.2.length) || x.2.2.2.any fun v => decide (1200 < v.2.size)
theorem greatR_no {x : RJ} (h : greatR x = false) : x.1.2.2.length ≤ 200 ∧ x.2.2.1.length ≤ 300 ∧ x.2.2.2.length ≤ 300 ∧ ∀ v ∈ x.2.2.2, v.2.size ≤ 1200 := by
  unfold greatR at h
  simp only [Bool.or_eq_false_iff, decide_eq_false_iff_not, List.any_eq_false, decide_eq_true_eq] at h
  exact ⟨by omega, by omega, by omega, fun v hv => by have := h.2 v hv; omega⟩
theorem getV_mem (n : Int) : ∀ {l : List V}, (getV n l).2 = true → (n, (getV n l).1) ∈ l
  | [], h => by cases h
  | v :: m, h => by
    rw [getV] at h ⊢
    split
    · rename_i c; rw [← c]; exact List.mem_cons_self ..
    · rename_i c
      rw [if_neg c] at h
      exact List.mem_cons_of_mem _ (getV_mem n h)
theorem len_sub : ∀ {l m : List Int}, l.Nodup → (∀ x ∈ l, x ∈ m) → l.length ≤ m.length
  | [], m, _, _ => Nat.zero_le _
  | a :: l, m, hn, h => by
    have ha := h a (List.mem_cons_self ..)
    obtain ⟨h1, h2⟩ := List.nodup_cons.1 hn
    have := len_sub (l := l) (m := m.erase a) h2 fun x hx => (List.mem_erase_of_ne (fun e : x = a => h1 (by rw [← e]; exact hx))).2 (h x (List.mem_cons_of_mem _ hx))
    rw [List.length_erase_of_mem ha] at this
    have := List.length_pos_of_mem ha
    rw [List.length_cons]; omega
/-- What came out of a message: no number twice, and its own alone. -/
def Own (g o : List V) : Prop := (o.map Prod.fst).Nodup ∧ ∀ x ∈ o.map Prod.fst, x ∈ g.map Prod.fst
theorem Own.len {g o : List V} (h : Own g o) : o.length ≤ g.length := by
  have := len_sub h.1 h.2
  rwa [List.length_map, List.length_map] at this
theorem insV_perm (n : Int) (x : ByteArray) (l : List V) : (insV n x l).Perm ((n, x) :: l) := by
  rw [insV_cut, List.append_assoc]
  have h := @List.perm_middle _ (n, x) (l.take (upTo n l)) (l.drop (upTo n l))
  rw [List.take_append_drop] at h
  exact h
theorem without_fst (n : Int) (l : List V) : (without n l).map Prod.fst = (l.map Prod.fst).filter fun x => decide (x ≠ n) := by
  unfold without
  rw [List.filter_map]; rfl
theorem withV_fst (n : Int) (x : ByteArray) (l : List V) : ((withV n x l).map Prod.fst).Perm (n :: (l.map Prod.fst).filter fun x => decide (x ≠ n)) := by
  have h := (insV_perm n x (without n l)).map Prod.fst
  rw [List.map_cons, without_fst] at h
  exact h
theorem Own.withV {g o : List V} (h : Own g o) {n : Int} (x : ByteArray) (hn : n ∈ g.map Prod.fst) : Own g (withV n x o) := by
  have hp := withV_fst n x o
  refine ⟨hp.nodup_iff.2 (List.nodup_cons.2 ⟨fun e => by simp at e, h.1.filter _⟩), fun y hy => ?_⟩
  rcases List.mem_cons.1 (hp.mem_iff.1 hy) with rfl | hy
  · exact hn
  · exact h.2 y (List.mem_filter.1 hy).1
theorem Own.nil (g : List V) : Own g [] := ⟨List.nodup_nil, fun x hx => by cases hx⟩
theorem Own.echoed {g : List V} : ∀ (m : List Int) (o : List V), Own g o → Own g (echoed g m o)
  | [], o, h => h
  | x :: m, o, h => by
    rw [Sp.echoed]
    refine Own.echoed m _ ?_
    split
    · rename_i c
      exact h.withV _ (List.mem_map.2 ⟨_, getV_mem x c, rfl⟩)
    · exact h
end Go.Proofs.YtkaihbkfobiejaaGreatDoor.Sp

/- Tables, rules and maps, in plain words. -/
namespace Go.Proofs.YtkaihbkfobiejaaGreatDoor.Sp
open Go Go.RowKit
set_option linter.unusedVariables false
set_option linter.unusedSimpArgs false
abbrev PB := ByteArray × ByteArray
abbrev RU := Int × Int × Int × ByteArray × List PB
def pairsL : List PB → List ByteArray → Nat → Int × Int
  | [], _, _ => (0, 0)
  | p :: l, seen, i => if p.1 ∈ seen then (10, (i : Int)) else pairsL l (seen ++ [p.1]) (i + 1)
/-- What is wrong with a table. -/
def pairsE (l : List PB) : Int × Int := if 256 < l.length then (5, 256) else pairsL l [] 0
def applyP (t : ByteArray) : List PB → ByteArray × Bool
  | [] => (ByteArray.mk #[], false)
  | p :: l => if p.1 = t then (p.2, true) else applyP t l
def turnP (l : List PB) : List PB := l.map fun p => (p.2, p.1)
def bijP (l : List PB) : Bool := decide ((pairsE l).1 = 0) && decide ((pairsE (turnP l)).1 = 0)
def tableL (a b : S5) : List PB → Int
  | [] => 0
  | p :: l => if specA a (bl p.1) ≠ 0 then specA a (bl p.1) else if specA b (bl p.2) ≠ 0 then specA b (bl p.2) else tableL a b l
def tableE (l : List PB) (a b : S5) : Int := if (pairsE l).1 ≠ 0 ∨ l.length = 0 then 15 else tableL a b l
def wider (a b : S5) : Bool := specW a.1 a.2.1 a.2.2.1 a.2.2.2.1 a.2.2.2.2 b.1 b.2.1 b.2.2.1 b.2.2.2.1 b.2.2.2.2
def padded (s : S5) : Bool := decide (s.2.1 = 1) && decide (s.2.2.1 = 1)
/-- The specs of a rule's fields; 0, if they are there. -/
def endsE (r : RU) (a b : List S5) : S5 × S5 × Int := ((findS r.2.1 a).1, (findS r.2.2.1 b).1,
  if (if r.1 = 3 then decide (r.2.1 = 0) else (findS r.2.1 a).2) = true ∧ (if r.1 = 2 then decide (r.2.2.1 = 0) else (findS r.2.2.1 b).2) = true then 0 else 9)
/-- What is wrong with a rule. -/
def ruleE (r : RU) (a b : List S5) : Int :=
  if r.1 < 1 ∨ 5 < r.1 then 1 else if (endsE r a b).2.2 ≠ 0 then (endsE r a b).2.2
  else if (r.2.2.2.1 ≠ ByteArray.mk #[] ∧ r.1 ≠ 3) ∨ (0 < r.2.2.2.2.length ∧ r.1 ≠ 5) then 3
  else if r.1 = 1 then (if wider (endsE r a b).2.1 (endsE r a b).1 = true then 0 else 6)
  else if r.1 = 3 then specA (endsE r a b).2.1 (bl r.2.2.2.1)
  else if r.1 = 4 then (if padded (endsE r a b).1 = true ∧ padded (endsE r a b).2.1 = true then 0 else 6)
  else if r.1 = 5 then tableE r.2.2.2.2 (endsE r a b).1 (endsE r a b).2.1
  else 0
def version (t : List UInt8) : Int := ((t.getD 0 0).toNat : Int) - 48
def typedP (p : PB) (v w : Int) : Bool := right (bl p.1) && (right (bl p.2) && (decide (version (bl p.1) = v) && (decide (version (bl p.2) = w) && decide (asks (bl p.1) = asks (bl p.2)))))
def mtisL (v w : Int) : List PB → List ByteArray → Nat → Option (Int × Int × Int)
  | [], _, _ => none
  | p :: l, seen, i => if typedP p v w = false then some (7, 2, (i : Int)) else if p.1 ∈ seen then some (10, 2, (i : Int)) else mtisL v w l (seen ++ [p.1]) (i + 1)
/-- The bits of one field's number. -/
def rulesL (a b : List S5) : List RU → Nat → Nat × Nat → Nat × Nat → Int × Int × Int
  | [], _, _, _ => (0, 0, 0)
  | r :: l, i, f, t => if ruleE r a b ≠ 0 then (ruleE r a b, 3, (i : Int))
    else if ¬ (f.1 &&& fb1 r.2.1 = 0 ∧ f.2 &&& fb2 r.2.1 = 0) then (10, 3, (i : Int))
    else if ¬ (t.1 &&& fb1 r.2.2.1 = 0 ∧ t.2 &&& fb2 r.2.2.1 = 0) then (10, 3, (i : Int))
    else rulesL a b l (i + 1) (f.1 ||| fb1 r.2.1, f.2 ||| fb2 r.2.1) (t.1 ||| fb1 r.2.2.1, t.2 ||| fb2 r.2.2.1)
/-- What is wrong with a map. -/
def mapE (m : RC) (a b : Int × Int × List S5) : Int × Int × Int :=
  if (schemaE a).1 ≠ 0 then (1, 1, 0) else if (schemaE b).1 ≠ 0 then (1, 1, 1)
  else if 256 < m.1.length then (5, 2, 256)
  else match mtisL a.2.1 b.2.1 m.1 [] 0 with
    | some e => e
    | none => if 256 < m.2.length then (5, 3, 256) else rulesL a.2.2 b.2.2 m.2 0 (0, 0) (0, 0)
def ruleOf (n : Int) : List RU → RU × Bool
  | [] => ((0, 0, 0, ByteArray.mk #[], []), false)
  | r :: l => if r.2.1 = n then (r, true) else ruleOf n l
end Go.Proofs.YtkaihbkfobiejaaGreatDoor.Sp
