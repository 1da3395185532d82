/- What is put is got, and what is got is put. -/
import Derived.Test.YtfaeodcapagjbaaCell
namespace Go.Proofs.Ytfaeodcapagjbaa.Sp
open Go.RowKit Go.Proofs.YtfaeodcapagjbaaW.PrintWords Go.Proofs.YtfaeodcapagjbaaW.PrintLast Go.Proofs.YtfaeodcapagjbaaW.PrintMore Go.Proofs.Ytfaeodcapagjbaa.P
set_option linter.unusedVariables false
set_option linter.unusedSimpArgs false
theorem inC1 (x : UInt8) : inC 1 x = dig x := by
  unfold inC inN dig
  rw [if_pos rfl, Bool.eq_iff_iff]
  simp
  omega
theorem body_size (st no c fo mi ma : Int) (l : List UInt8) (h : specV no c fo mi ma l = 0) : (cellBody (cellHow st c) l).length = cellSize (cellHow st c) l.length := by
  have hl := specV_len h
  obtain ⟨h0, h1, h2, h3⟩ := specV_zero h
  unfold cellBody cellSize
  by_cases c1 : cellHow st c = 1
  · rw [if_pos c1, if_pos c1]
    have hc : c = 1 := by
      unfold cellHow at c1
      by_cases g : st = 2 ∧ c = 1
      · exact g.2
      · rw [if_neg g] at c1; split at c1 <;> cases c1
    subst hc
    have hd : l.all dig = true := by rw [← h3]; congr 1; funext x; exact (inC1 x).symm
    unfold bcdPut
    rw [if_neg (by intro h; rcases h with h | h; omega; rw [hd] at h; cases h), pack_len]
  · rw [if_neg c1, if_neg c1]
    split
    · rw [hexPut_length]
    · rfl
theorem text_body (st no c fo mi ma : Int) (l : List UInt8) (h : specV no c fo mi ma l = 0) : cellText (cellHow st c) (cellBody (cellHow st c) l) (l.length : Int) = (l, 0) := by
  have hl := specV_len h
  obtain ⟨h0, h1, h2, h3⟩ := specV_zero h
  unfold cellText cellBody
  by_cases c1 : cellHow st c = 1
  · simp only [c1, if_true]
    have hc : c = 1 := by
      unfold cellHow at c1
      by_cases g : st = 2 ∧ c = 1
      · exact g.2
      · rw [if_neg g] at c1; split at c1 <;> cases c1
    subst hc
    have hd : l.all dig = true := by rw [← h3]; congr 1; funext x; exact (inC1 x).symm
    have hg := bcdGet_put l [] (by omega) hd
    rw [List.append_nil] at hg
    unfold bcdPut
    rw [if_neg (by intro h; rcases h with h | h; omega; rw [hd] at h; cases h), hg]
  · simp only [c1, if_false]
    by_cases c2 : cellHow st c = 2
    · simp only [c2, if_true]
      rw [hexGet_put]; rfl
    · simp only [c2, if_false]
/-- A value that is put is got as it was, with anything ahead of it and behind it. -/
theorem take_put (st no c fo mi ma : Int) (l a r : List UInt8) (h : specV no c fo mi ma l = 0) : cellTake st no c fo mi ma (a ++ (cellBody (cellHow st c) l ++ r)) a.length l.length = (l, ((a.length + (cellBody (cellHow st c) l).length : Nat) : Int), 0) := by
  have hs := body_size st no c fo mi ma l h
  unfold cellTake
  have e : ((a ++ (cellBody (cellHow st c) l ++ r)).drop a.length).take (cellSize (cellHow st c) l.length) = cellBody (cellHow st c) l := by
    rw [List.drop_left, ← hs, List.take_left]
  rw [e, text_body st no c fo mi ma l h]
  dsimp only
  rw [if_neg (by rw [List.length_append, List.length_append, hs]; omega), if_neg (show ¬ ((0 : Int) ≠ 0) by decide), if_neg (not_not_intro h), hs]
theorem get_put (st no c fo mi ma : Int) (l a r : List UInt8) (hs : st = 1 ∨ st = 2) (h : specV no c fo mi ma l = 0) : cellGet st no c fo mi ma (a ++ ((cellPut st no c fo mi ma l).1 ++ r)) (a.length : Int) = (l, ((a.length + (cellPut st no c fo mi ma l).1.length : Nat) : Int), 0) := by
  have hl := specV_len h
  obtain ⟨h0, h1, h2, h3⟩ := specV_zero h
  have hz := specE_zero h0
  unfold cellPut cellGet
  rw [if_neg (not_not_intro hs), if_neg (not_not_intro h)]
  dsimp only
  unfold cellHead
  by_cases c1 : fo = 1
  · rw [if_pos c1]
    have hm : mi.toNat = l.length := by have := hz.2.2.2.2.2.2.2.1 c1; omega
    rw [if_neg (not_not_intro ⟨hs, h0, by omega, by rw [List.length_append]; omega⟩), if_pos c1, List.nil_append, Int.toNat_natCast, hm, take_put st no c fo mi ma l a r h]
  · rw [if_neg c1]
    have hok : (prePut st fo (l.length : Int)).2 = 0 := by
      have hk : preOk st fo = true := decide_eq_true ⟨hs, by omega⟩
      have hp : putNum (l.length : Int) fo = (sb (digs fo.toNat l.length), true) := by
        have := putNum_pos (n := l.length) (w := fo.toNat) (by omega) (by omega) (by
          rcases (show fo = 2 ∨ fo = 3 by omega) with h' | h'
          · subst h'; have := hz.2.2.2.2.2.2.1 rfl; show l.length < 10 ^ 2; omega
          · subst h'; show l.length < 10 ^ 3; omega)
        rw [show ((fo.toNat : Nat) : Int) = fo by omega] at this
        exact this
      unfold prePut
      rw [if_pos hk, hp]; rfl
    have hg := preGet_put a (cellBody (cellHow st c) l ++ r) hok
    have e : a ++ ((prePut st fo (l.length : Int)).1 ++ cellBody (cellHow st c) l ++ r) = a ++ (prePut st fo (l.length : Int)).1 ++ (cellBody (cellHow st c) l ++ r) := by simp only [List.append_assoc]
    rw [if_neg (not_not_intro ⟨hs, h0, by omega, by rw [List.length_append]; omega⟩), if_neg c1, e, hg]
    dsimp only
    rw [if_neg (by decide), if_neg (by omega), Int.toNat_natCast]
    have e2 : ((a.length : Int) + ((prePut st fo (l.length : Int)).1.length : Int)).toNat = (a ++ (prePut st fo (l.length : Int)).1).length := by rw [List.length_append]; omega
    rw [e2, take_put st no c fo mi ma l _ r h, List.length_append, List.length_append, Nat.add_assoc]
theorem how_one {st c : Int} (h : cellHow st c = 1) : c = 1 := by
  unfold cellHow at h
  by_cases g : st = 2 ∧ c = 1
  · exact g.2
  · rw [if_neg g] at h; split at h <;> cases h
/-- What is taken is what is put. -/
theorem body_text {h n : Int} {raw t : List UInt8} (hn : 0 ≤ n) (hr : raw.length = cellSize h n.toNat) (ht : cellText h raw n = (t, 0)) : cellBody h t = raw ∧ t.length = n.toNat := by
  unfold cellText at ht
  unfold cellBody
  unfold cellSize at hr
  by_cases h1 : h = 1
  · simp only [h1, if_true] at ht hr ⊢
    simp only [Prod.mk.injEq] at ht
    obtain ⟨p, hp⟩ : ∃ p, bcdGet raw n = (t, 0, p) := ⟨(bcdGet raw n).2.2, by rw [← ht.1, ← ht.2]⟩
    obtain ⟨-, g1, g2, g3, g4, g5, g6⟩ := bcdGet_ok hp
    unfold bcdPut
    rw [if_neg (by intro h; rcases h with h | h; omega; rw [g5] at h; cases h), g6, ← hr, List.take_length]
    exact ⟨rfl, g4⟩
  · simp only [h1, if_false] at ht hr ⊢
    by_cases h2 : h = 2
    · simp only [h2, if_true] at ht hr ⊢
      simp only [Prod.mk.injEq] at ht
      obtain ⟨e1, e2⟩ := ht
      by_cases g : (hexGet raw).2.2 = true
      · obtain ⟨g1, g2⟩ := hexGet_ok (l := raw) (r := t) (n := (hexGet raw).2.1) (by rw [← e1, ← g])
        refine ⟨g2, ?_⟩
        have := hexPut_length t
        rw [g2] at this; omega
      · rw [if_neg g] at e2; cases e2
    · simp only [h2, if_false] at ht hr ⊢
      simp only [Prod.mk.injEq] at ht
      rw [← ht.1]; exact ⟨rfl, hr⟩
theorem take_ok {st no c fo mi ma : Int} {b : List UInt8} {a n : Nat} {t : List UInt8} {nx : Int} (ha : a ≤ b.length) (h : cellTake st no c fo mi ma b a n = (t, nx, 0)) : cellBody (cellHow st c) t = (b.drop a).take (cellSize (cellHow st c) n) ∧ t.length = n ∧ nx = ((a + cellSize (cellHow st c) n : Nat) : Int) ∧ a + cellSize (cellHow st c) n ≤ b.length ∧ specV no c fo mi ma t = 0 := by
  unfold cellTake at h
  by_cases h0 : (b.length : Int) - (a : Int) < (cellSize (cellHow st c) n : Int)
  · rw [if_pos h0] at h; simp at h
  · rw [if_neg h0] at h
    obtain ⟨⟨x, e⟩, hx⟩ : ∃ r, cellText (cellHow st c) ((b.drop a).take (cellSize (cellHow st c) n)) (n : Int) = r := ⟨_, rfl⟩
    rw [hx] at h
    dsimp only at h
    by_cases h1 : e = 0
    · subst h1
      rw [if_neg (by decide)] at h
      by_cases h2 : specV no c fo mi ma x = 0
      · rw [if_neg (not_not_intro h2)] at h
        simp only [Prod.mk.injEq] at h
        obtain ⟨rfl, rfl, -⟩ := h
        have hr : ((b.drop a).take (cellSize (cellHow st c) n)).length = cellSize (cellHow st c) (n : Int).toNat := by rw [Int.toNat_natCast, List.length_take, List.length_drop]; omega
        obtain ⟨g1, g2⟩ := body_text (by omega) hr hx
        exact ⟨g1, by rw [g2, Int.toNat_natCast], rfl, by omega, h2⟩
      · rw [if_pos h2] at h
        simp only [Prod.mk.injEq] at h
        exact absurd h.2.2 h2
    · rw [if_pos h1] at h
      simp only [Prod.mk.injEq] at h
      exact absurd h.2.2 h1
theorem take_no {st no c fo mi ma : Int} {b : List UInt8} {a n : Nat} (h : (cellTake st no c fo mi ma b a n).2.2 ≠ 0) : (cellTake st no c fo mi ma b a n).1 = [] ∧ (cellTake st no c fo mi ma b a n).2.1 = 0 := by
  unfold cellTake at h ⊢
  by_cases h0 : (b.length : Int) - (a : Int) < (cellSize (cellHow st c) n : Int)
  · rw [if_pos h0]; exact ⟨rfl, rfl⟩
  · rw [if_neg h0] at h ⊢
    by_cases h1 : (cellText (cellHow st c) ((b.drop a).take (cellSize (cellHow st c) n)) (n : Int)).2 ≠ 0
    · rw [if_pos h1]; exact ⟨rfl, rfl⟩
    · rw [if_neg h1] at h ⊢
      by_cases h2 : specV no c fo mi ma (cellText (cellHow st c) ((b.drop a).take (cellSize (cellHow st c) n)) (n : Int)).1 ≠ 0
      · rw [if_pos h2]; exact ⟨rfl, rfl⟩
      · rw [if_neg h2] at h; exact absurd rfl h
theorem get_no {st no c fo mi ma : Int} {b : List UInt8} {at_ : Int} (h : (cellGet st no c fo mi ma b at_).2.2 ≠ 0) : (cellGet st no c fo mi ma b at_).1 = [] ∧ (cellGet st no c fo mi ma b at_).2.1 = 0 := by
  unfold cellGet at h ⊢
  by_cases h0 : ¬ ((st = 1 ∨ st = 2) ∧ specE no c fo mi ma = 0 ∧ 0 ≤ at_ ∧ at_ ≤ (b.length : Int))
  · rw [if_pos h0]; exact ⟨rfl, rfl⟩
  · rw [if_neg h0] at h ⊢
    by_cases h1 : fo = 1
    · rw [if_pos h1] at h ⊢; exact take_no h
    · rw [if_neg h1] at h ⊢
      by_cases h2 : (preGet st fo b at_).2.2 ≠ 0
      · rw [if_pos h2]; exact ⟨rfl, rfl⟩
      · rw [if_neg h2] at h ⊢
        by_cases h3 : (preGet st fo b at_).1 < mi ∨ ma < (preGet st fo b at_).1
        · rw [if_pos h3]; exact ⟨rfl, rfl⟩
        · rw [if_neg h3] at h ⊢; exact take_no h
/-- Bytes that are got are put as they were. -/
theorem put_get {st no c fo mi ma : Int} {b t : List UInt8} {a : Nat} {nx : Int} (h : cellGet st no c fo mi ma b (a : Int) = (t, nx, 0)) : (st = 1 ∨ st = 2) ∧ specV no c fo mi ma t = 0 ∧ a ≤ b.length ∧ ∃ e : Nat, nx = (e : Int) ∧ a ≤ e ∧ e ≤ b.length ∧ cellPut st no c fo mi ma t = ((b.drop a).take (e - a), 0) := by
  unfold cellGet at h
  by_cases h0 : ¬ ((st = 1 ∨ st = 2) ∧ specE no c fo mi ma = 0 ∧ 0 ≤ (a : Int) ∧ (a : Int) ≤ (b.length : Int))
  · rw [if_pos h0] at h; simp at h
  · rw [if_neg h0] at h
    obtain ⟨hs, he, -, ha⟩ := Classical.not_not.1 h0
    have ha' : a ≤ b.length := by omega
    have hz := specE_zero he
    by_cases h1 : fo = 1
    · rw [if_pos h1, Int.toNat_natCast] at h
      obtain ⟨g1, g2, g3, g4, g5⟩ := take_ok ha' h
      refine ⟨hs, g5, ha', _, g3, by omega, g4, ?_⟩
      unfold cellPut cellHead
      rw [if_neg (not_not_intro hs), if_neg (not_not_intro g5), if_pos h1, g1, List.nil_append, Nat.add_sub_cancel_left]
    · rw [if_neg h1] at h
      obtain ⟨⟨n, x, e⟩, hp⟩ : ∃ r, preGet st fo b (a : Int) = r := ⟨_, rfl⟩
      rw [hp] at h
      dsimp only at h
      by_cases h2 : e = 0
      · subst h2
        rw [if_neg (by decide)] at h
        obtain ⟨p0, p1, p2, p3, p4, p5, p6⟩ := prePut_get hp
        by_cases h3 : n < mi ∨ ma < n
        · rw [if_pos h3] at h; simp at h
        · rw [if_neg h3] at h
          obtain ⟨n', rfl⟩ : ∃ m : Nat, n = (m : Int) := ⟨n.toNat, by omega⟩
          rw [Int.toNat_natCast] at h p0
          have hx : x.toNat = a + preSize st fo := by omega
          rw [hx] at h
          obtain ⟨g1, g2, g3, g4, g5⟩ := take_ok (by omega) h
          refine ⟨hs, g5, ha', _, g3, by omega, g4, ?_⟩
          unfold cellPut cellHead
          rw [if_neg (not_not_intro hs), if_neg (not_not_intro g5), if_neg h1, g1, g2, p0]
          dsimp only
          rw [show a + preSize st fo + cellSize (cellHow st c) n' - a = preSize st fo + cellSize (cellHow st c) n' by omega, List.take_add, List.drop_drop]
      · rw [if_pos h2] at h
        simp only [Prod.mk.injEq] at h
        exact absurd h.2.2 h2
end Go.Proofs.Ytfaeodcapagjbaa.Sp
