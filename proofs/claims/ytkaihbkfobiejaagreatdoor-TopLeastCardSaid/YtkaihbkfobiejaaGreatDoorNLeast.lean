/- The least fault, in plain words. -/
import Derived.Test.YtkaihbkfobiejaaGreatDoorNTop
namespace Go.Proofs.YtkaihbkfobiejaaGreatDoor.Sp
open Go Go.RowKit
set_option linter.unusedVariables false
set_option linter.unusedSimpArgs false
theorem ite_ne {p : Prop} [Decidable p] {a b c : Int} (h1 : a ≠ c) (h2 : b ≠ c) : (if p then a else b) ≠ c := by split <;> assumption
theorem ite_snd {α β : Type} {p : Prop} [Decidable p] (a b : α × β × Int) : (if p then a else b).2.2 = if p then a.2.2 else b.2.2 := by split <;> rfl
theorem ite_sn {α : Type} {p : Prop} [Decidable p] (a b : α × Int) : (if p then a else b).2 = if p then a.2 else b.2 := by split <;> rfl
theorem specV_12 (no c fo mi ma : Int) (l : List UInt8) : specV no c fo mi ma l ≠ 12 := by
  unfold specV
  exact ite_ne (by decide) (ite_ne (by decide) (ite_ne (by decide) (ite_ne (by decide) (by decide))))
theorem preGet_12 (st fo : Int) (b : List UInt8) (a : Int) : (preGet st fo b a).2.2 ≠ 12 := by
  unfold preGet
  simp only [ite_snd]
  exact ite_ne (ite_ne (by decide) (ite_ne (ite_ne (by decide) (by decide)) (by decide))) (by decide)
theorem bcdFrom_12 (odd : Bool) : ∀ (l : List UInt8) (i : Nat) (o : List UInt8), (bcdFrom odd i o l).2.1 ≠ 12
  | [], i, o => by simp [bcdFrom]
  | b :: l, i, o => by
    have := bcdFrom_12 odd l
    unfold bcdFrom
    repeat' split
    all_goals first | (exact this _ _) | (intro h; cases h)
theorem bcdGet_12 (l : List UInt8) (n : Int) : (bcdGet l n).2.1 ≠ 12 := by
  unfold bcdGet
  split
  · intro h; cases h
  · split
    · intro h; cases h
    · exact bcdFrom_12 _ _ _ _
theorem cellText_12 (h : Int) (raw : List UInt8) (n : Int) : (cellText h raw n).2 ≠ 12 := by
  unfold cellText
  simp only [ite_sn]
  exact ite_ne (bcdGet_12 _ _) (ite_ne (ite_ne (by decide) (by decide)) (by decide))
theorem cellTake_12 (st no c fo mi ma : Int) (b : List UInt8) (a n : Nat) : (cellTake st no c fo mi ma b a n).2.2 ≠ 12 := by
  unfold cellTake
  simp only [ite_snd]
  exact ite_ne (by decide) (ite_ne (cellText_12 _ _ _) (ite_ne (specV_12 _ _ _ _ _ _) (by decide)))
theorem cellGet_12 (st no c fo mi ma : Int) (b : List UInt8) (a : Int) : (cellGet st no c fo mi ma b a).2.2 ≠ 12 := by
  unfold cellGet
  simp only [ite_snd]
  exact ite_ne (by decide) (ite_ne (cellTake_12 _ _ _ _ _ _ _ _ _) (ite_ne (preGet_12 _ _ _ _) (ite_ne (by decide) (cellTake_12 _ _ _ _ _ _ _ _ _))))
/-- A fault at a field isn't bytes too many. -/
theorem decL_12 (st : Int) (s : List S5) (b : List UInt8) : ∀ (L : List Int) (a : Int), (decL st s b L a).2.1 = 12 → (decL st s b L a).1.map Prod.fst = L ∧ (decL st s b L a).2.2 = 129
  | [], a, h => by
    rw [decL] at h ⊢
    split at h
    · exact ⟨rfl, by rename_i c; rw [if_pos c]⟩
    · cases h
  | n :: L, a, h => by
    rw [decL] at h ⊢
    by_cases c1 : (findS n s).2 = false
    · rw [if_pos c1] at h; cases h
    rw [if_neg c1] at h ⊢
    by_cases c2 : (cellGet' st (findS n s).1 b a).2.2 ≠ 0
    · rw [if_pos c2] at h
      exact absurd h (cellGet_12 _ _ _ _ _ _ _ _)
    rw [if_neg c2] at h ⊢
    obtain ⟨h1, h2⟩ := decL_12 st s b L _ h
    exact ⟨by rw [List.map_cons, h1], h2⟩
/-- The last number of a message's fields. -/
def lastV (n : Int) : List V → Int
  | [] => n
  | v :: m => lastV v.1 m
theorem lastV_next (h l : Nat) : ∀ (g : List V) (n : Nat) (R : List Int), n ≤ 128 → fromS h l n = g.map Prod.fst ++ R → ∃ k : Nat, lastV (n : Int) g = (k : Int) ∧ k ≤ 128 ∧ fromS h l k = R
  | [], n, R, hn, e => ⟨n, rfl, hn, e⟩
  | v :: g, n, R, hn, e => by
    obtain ⟨y, e1, e2, e3, e4⟩ := fromS_cons hn (show fromS h l n = v.1 :: (g.map Prod.fst ++ R) from e)
    rw [lastV, e1]
    exact lastV_next h l g y R e3 e4.symm
/-- What is told of a fault behind the type. -/
theorem top_least {x : Int × Int × List S5} {z : List UInt8} (hne : (decM x z).1.1 ≠ []) (he : (decM x z).2.1 ≠ 0) :
    msgE x (decM x z).1.1 (decM x z).1.2 = (0, 0) ∧ (x.1 = 1 ∨ x.1 = 2) ∧ typeN x.1 ≤ z.length ∧ z.take (typeN x.1) = typeB x.1 (decM x z).1.1 ∧ (typeB x.1 (decM x z).1.1).length = typeN x.1 ∧
    (((decM x z).1.2 = [] ∧ (decM x z).2.2 = 1 ∧ (bitGet x.1 z (typeN x.1 : Int)).2.2 = (decM x z).2.1) ∨
     (1 < (decM x z).2.2 ∧ (bitGet x.1 z (typeN x.1 : Int)).2.2 = 0 ∧ (bitGet x.1 z (typeN x.1 : Int)).2.1 ≤ z.length ∧ (∃ r, z.drop (bitGet x.1 z (typeN x.1 : Int)).2.1 = fieldsB x.1 x.2.2 (decM x z).1.2 ++ r) ∧
      ∃ k : Nat, lastV 0 (decM x z).1.2 = (k : Int) ∧ k ≤ 128 ∧
       ((decM x z).2 = (12, 129) ∧ nextS (bitGet x.1 z (typeN x.1 : Int)).1.1 (bitGet x.1 z (typeN x.1 : Int)).1.2 k = 0 ∨ (decM x z).2.1 ≠ 12 ∧ nextS (bitGet x.1 z (typeN x.1 : Int)).1.1 (bitGet x.1 z (typeN x.1 : Int)).1.2 k = (decM x z).2.2))) := by
  have hv := (decM_part hne).1
  rcases decM_cases x z with ⟨h1, -, -⟩ | ⟨h1, h2, h3, h4, h5, h6⟩
  · rw [h1] at hne; exact absurd rfl hne
  have hst := schema_style h1
  refine ⟨hv, hst, h4, h5, typeB_length' hst h2, ?_⟩
  rcases h6 with ⟨k1, k2, k3, k4⟩ | ⟨k1, k2, k3⟩
  · exact .inl ⟨k1, k3, k4.symm⟩
  right
  obtain ⟨-, -, -, g1, g2, g3, -, -⟩ := bitGet_ok k1
  have hp := fromS_pair (bitGet x.1 z (typeN x.1 : Int)).1.1 (bitGet x.1 z (typeN x.1 : Int)).1.2 0
  have hmem : ∀ n ∈ fromS (bitGet x.1 z (typeN x.1 : Int)).1.1 (bitGet x.1 z (typeN x.1 : Int)).1.2 0, 1 < n := fun n hn => by
    obtain ⟨m, rfl, h1, h2, h3⟩ := (mem_fromS _ _ _).1 hn
    rcases Nat.lt_or_ge 1 m with h | h
    · omega
    · obtain rfl : m = 1 := by omega
      rw [fhas_high _ _ 1 (by decide) (by decide)] at h3
      rw [Nat.testBit_lt_two_pow (by simpa using g1)] at h3
      cases h3
  obtain ⟨d1, d2, d3, c, d4, d5, d6, -⟩ := decL_ok x.1 x.2.2 z _ 0 _ g3 hp (fun n hn => by have := hmem n hn; omega)
  have d12 := decL_12 x.1 x.2.2 z (fromS (bitGet x.1 z (typeN x.1 : Int)).1.1 (bitGet x.1 z (typeN x.1 : Int)).1.2 0) ((bitGet x.1 z (typeN x.1 : Int)).2.1 : Int)
  rw [k3] at he
  rw [k2, k3]
  refine ⟨?_, k1, g3, ⟨z.drop c, d6⟩, ?_⟩
  · rcases d3 he with ⟨e1, -⟩ | ⟨e1, -⟩
    · rw [e1]; decide
    · exact hmem _ e1
  · by_cases e12 : (decL x.1 x.2.2 z (fromS (bitGet x.1 z (typeN x.1 : Int)).1.1 (bitGet x.1 z (typeN x.1 : Int)).1.2 0) ((bitGet x.1 z (typeN x.1 : Int)).2.1 : Int)).2.1 = 12
    · obtain ⟨q1, q2⟩ := d12 e12
      obtain ⟨k, j1, j2, j3⟩ := lastV_next _ _ _ 0 [] (by decide) (show fromS _ _ 0 = _ ++ [] by rw [List.append_nil]; exact q1.symm)
      refine ⟨k, j1, j2, .inl ⟨Prod.ext e12 q2, ?_⟩⟩
      unfold nextS; rw [j3]; rfl
    · rcases d3 he with ⟨e1, -⟩ | ⟨-, r, e2⟩
      · rw [e1] at e12; exact absurd rfl e12
      · obtain ⟨k, j1, j2, j3⟩ := lastV_next _ _ _ 0 _ (by decide) e2
        refine ⟨k, j1, j2, .inr ⟨e12, ?_⟩⟩
        unfold nextS; rw [j3]; rfl
end Go.Proofs.YtkaihbkfobiejaaGreatDoor.Sp
