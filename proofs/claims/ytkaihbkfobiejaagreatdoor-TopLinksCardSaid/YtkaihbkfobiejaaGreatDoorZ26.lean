import Derived.Test.YtkaihbkfobiejaaGreatDoorZ25
import Derived.Test.YtkaihbkfobiejaaGreatDoorZ6
namespace Go.Proofs.YtkaihbkfobiejaaGreatDoor.Xe
open Go Go.RowKit Go.Proofs.YtkaihbkfobiejaaGreatDoor.Sp
set_option linter.unusedVariables false
set_option linter.unusedSimpArgs false
set_option maxRecDepth 100000
theorem okE_mem : ∀ {l : List EV}, okE l = true → ∀ e ∈ l, e.1 = 0 ∨ e.1 = 1
 | [], _, e, he => by cases he
 | x :: r, h, e, he => by
  rw [okE, Bool.and_eq_true, Bool.and_eq_true, decide_eq_true_eq, decide_eq_true_eq] at h
  rcases List.mem_cons.1 he with rfl | he
  ·omega
  ·exact okE_mem h.2.2 e he
theorem tot_append : ∀ a b : List EV, tot (a ++ b) = tot a + tot b
 | [], b => by rw [List.nil_append, tot, Nat.zero_add]
 | e :: a, b => by rw [List.cons_append, tot, tot, tot_append a b]; omega
theorem links_2 (l : List EV) (a0 a1 : Int) (a2 : List S5) (a3 : List PB) (a4 : List RU) (a5 : List Int) (a6 : List V) (a7 a8 : Int) (a9 : List S5) (a10 : List PB) (a11 : List RU) (a12 : List Int) (a13 : List V) (a14 : Int) (d m0 : Int) (b0 : Bool) (q0 : List Int) (m1 : Int) (b1 : Bool) (q1 : List Int) (of0 of1 al0 al1 : List O4) : groattop_TopLinks.l2 1 l 2 a0 a1 a2 a3 a4 a5 a6 a7 a8 a9 a10 a11 a12 a13 a14 a0 a1 a2 a3 a4 a5 a6 a7 a8 a9 a10 a11 a12 a13 a14 d m0 b0 q0 m1 b1 q1 of0 of1 al0 al1 = some true := by
 rw [groattop_TopLinks.l2_eq, if_neg (by decide)]
theorem links_1 (l : List EV) (h1 : l.length ≤ 2500) (h2 : tot l ≤ 2500) (a0 a1 : Int) (a2 : List S5) (a3 : List PB) (a4 : List RU) (a5 : List Int) (a6 : List V) (a7 a8 : Int) (a9 : List S5) (a10 : List PB) (a11 : List RU) (a12 : List Int) (a13 : List V) (a14 : Int) (hg : greatC ((((a0, a1, a2), (a3, a4), a5, a6), (a7, a8, a9), (a10, a11), a12, a13), a14) = false) (ok : CfgOk ((((a0, a1, a2), (a3, a4), a5, a6), (a7, a8, a9), (a10, a11), a12, a13), a14)) (d m0 : Int) (b0 : Bool) (q0 : List Int) (m1 : Int) (b1 : Bool) (q1 : List Int) (al0 : List O4) : ∃ n, groattop_TopLinks.l2 n l 1 a0 a1 a2 a3 a4 a5 a6 a7 a8 a9 a10 a11 a12 a13 a14 a0 a1 a2 a3 a4 a5 a6 a7 a8 a9 a10 a11 a12 a13 a14 d m0 b0 q0 m1 b1 q1 ((runP a14 (strm 0 l) (false, [])).1.map (outZ ((((a0, a1, a2), (a3, a4), a5, a6), (a7, a8, a9), (a10, a11), a12, a13), a14) 0)) ((runP a14 (strm 1 l) (false, [])).1.map (outZ ((((a0, a1, a2), (a3, a4), a5, a6), (a7, a8, a9), (a10, a11), a12, a13), a14) 1)) al0 [] = some true := by
 have hn := strm_length 1 l
 have hr := (runP_length a14 (strm 1 l) (false, [])).1
 obtain ⟨os, e, e1, e2⟩ := gateway_Feed ((((a0, a1, a2), (a3, a4), a5, a6), (a7, a8, a9), (a10, a11), a12, a13), a14) hg ok 0 a14 (false, []) a14 (false, []) (by simp) (by simp) 1 (by simp) (strm 1 l) (by omega)
 simp (decide := true) only [if_true, if_false] at e1 e2
 have ho : os.length ≤ 1000000 := by
  have := congrArg List.length e2
  rw [List.length_map, List.length_map] at this
  omega
 obtain ⟨n, hn⟩ : ∃ n, groattop_TopLinks.l2 n l 2 a0 a1 a2 a3 a4 a5 a6 a7 a8 a9 a10 a11 a12 a13 a14 a0 a1 a2 a3 a4 a5 a6 a7 a8 a9 a10 a11 a12 a13 a14 d m0 b0 q0 m1 b1 q1 ((runP a14 (strm 0 l) (false, [])).1.map (outZ ((((a0, a1, a2), (a3, a4), a5, a6), (a7, a8, a9), (a10, a11), a12, a13), a14) 0)) ((runP a14 (strm 1 l) (false, [])).1.map (outZ ((((a0, a1, a2), (a3, a4), a5, a6), (a7, a8, a9), (a10, a11), a12, a13), a14) 1)) al0 ((runP a14 (strm 1 l) (false, [])).1.map (outZ ((((a0, a1, a2), (a3, a4), a5, a6), (a7, a8, a9), (a10, a11), a12, a13), a14) 1)) = some true := ⟨1, links_2 l a0 a1 a2 a3 a4 a5 a6 a7 a8 a9 a10 a11 a12 a13 a14 d m0 b0 q0 m1 b1 q1 _ _ _ _⟩
 refine ⟨n + os.length + 1 + 1, ?_⟩
 rw [groattop_TopLinks.l2_eq, if_pos (by decide), gateway_New ((((a0, a1, a2), (a3, a4), a5, a6), (a7, a8, a9), (a10, a11), a12, a13), a14) hg ok, Option.bind_some, r26_Stream l 1 h1 h2, Option.bind_some]
 simp only [Bool.decide_eq_true]
 rw [e1, Option.bind_some]
 dsimp only
 have h5 := links_l5_1 l os ho a0 a1 a2 a3 a4 a5 a6 a7 a8 a9 a10 a11 a12 a13 a14 d m0 b0 q0 m1 b1 q1 ((runP a14 (strm 0 l) (false, [])).1.map (outZ ((((a0, a1, a2), (a3, a4), a5, a6), (a7, a8, a9), (a10, a11), a12, a13), a14) 0)) ((runP a14 (strm 1 l) (false, [])).1.map (outZ ((((a0, a1, a2), (a3, a4), a5, a6), (a7, a8, a9), (a10, a11), a12, a13), a14) 1)) e a14 false [] a14 (runP a14 (strm 1 l) (false, [])).2.1 (runP a14 (strm 1 l) (false, [])).2.2 (by rw [List.length_map]; omega) n os 0 al0 [] rfl (by rw [List.nil_append, e2])
 rw [List.nil_append, e2] at h5
 exact h5.trans hn
theorem links_0 (l : List EV) (h1 : l.length ≤ 2500) (h2 : tot l ≤ 2500) (a0 a1 : Int) (a2 : List S5) (a3 : List PB) (a4 : List RU) (a5 : List Int) (a6 : List V) (a7 a8 : Int) (a9 : List S5) (a10 : List PB) (a11 : List RU) (a12 : List Int) (a13 : List V) (a14 : Int) (hg : greatC ((((a0, a1, a2), (a3, a4), a5, a6), (a7, a8, a9), (a10, a11), a12, a13), a14) = false) (ok : CfgOk ((((a0, a1, a2), (a3, a4), a5, a6), (a7, a8, a9), (a10, a11), a12, a13), a14)) (d m0 : Int) (b0 : Bool) (q0 : List Int) (m1 : Int) (b1 : Bool) (q1 : List Int) : ∃ n, groattop_TopLinks.l2 n l 0 a0 a1 a2 a3 a4 a5 a6 a7 a8 a9 a10 a11 a12 a13 a14 a0 a1 a2 a3 a4 a5 a6 a7 a8 a9 a10 a11 a12 a13 a14 d m0 b0 q0 m1 b1 q1 ((runP a14 (strm 0 l) (false, [])).1.map (outZ ((((a0, a1, a2), (a3, a4), a5, a6), (a7, a8, a9), (a10, a11), a12, a13), a14) 0)) ((runP a14 (strm 1 l) (false, [])).1.map (outZ ((((a0, a1, a2), (a3, a4), a5, a6), (a7, a8, a9), (a10, a11), a12, a13), a14) 1)) [] [] = some true := by
 have hn := strm_length 0 l
 have hr := (runP_length a14 (strm 0 l) (false, [])).1
 obtain ⟨os, e, e1, e2⟩ := gateway_Feed ((((a0, a1, a2), (a3, a4), a5, a6), (a7, a8, a9), (a10, a11), a12, a13), a14) hg ok 0 a14 (false, []) a14 (false, []) (by simp) (by simp) 0 (by simp) (strm 0 l) (by omega)
 simp (decide := true) only [if_true, if_false] at e1 e2
 have ho : os.length ≤ 1000000 := by
  have := congrArg List.length e2
  rw [List.length_map, List.length_map] at this
  omega
 obtain ⟨n, hn⟩ : ∃ n, groattop_TopLinks.l2 n l 1 a0 a1 a2 a3 a4 a5 a6 a7 a8 a9 a10 a11 a12 a13 a14 a0 a1 a2 a3 a4 a5 a6 a7 a8 a9 a10 a11 a12 a13 a14 d m0 b0 q0 m1 b1 q1 ((runP a14 (strm 0 l) (false, [])).1.map (outZ ((((a0, a1, a2), (a3, a4), a5, a6), (a7, a8, a9), (a10, a11), a12, a13), a14) 0)) ((runP a14 (strm 1 l) (false, [])).1.map (outZ ((((a0, a1, a2), (a3, a4), a5, a6), (a7, a8, a9), (a10, a11), a12, a13), a14) 1)) ((runP a14 (strm 0 l) (false, [])).1.map (outZ ((((a0, a1, a2), (a3, a4), a5, a6), (a7, a8, a9), (a10, a11), a12, a13), a14) 0)) [] = some true := links_1 l h1 h2 a0 a1 a2 a3 a4 a5 a6 a7 a8 a9 a10 a11 a12 a13 a14 hg ok d m0 b0 q0 m1 b1 q1 _
 refine ⟨n + os.length + 1 + 1, ?_⟩
 rw [groattop_TopLinks.l2_eq, if_pos (by decide), gateway_New ((((a0, a1, a2), (a3, a4), a5, a6), (a7, a8, a9), (a10, a11), a12, a13), a14) hg ok, Option.bind_some, r26_Stream l 0 h1 h2, Option.bind_some]
 simp only [Bool.decide_eq_true]
 rw [e1, Option.bind_some]
 dsimp only
 have h5 := links_l5_0 l os ho a0 a1 a2 a3 a4 a5 a6 a7 a8 a9 a10 a11 a12 a13 a14 d m0 b0 q0 m1 b1 q1 ((runP a14 (strm 0 l) (false, [])).1.map (outZ ((((a0, a1, a2), (a3, a4), a5, a6), (a7, a8, a9), (a10, a11), a12, a13), a14) 0)) ((runP a14 (strm 1 l) (false, [])).1.map (outZ ((((a0, a1, a2), (a3, a4), a5, a6), (a7, a8, a9), (a10, a11), a12, a13), a14) 1)) e a14 (runP a14 (strm 0 l) (false, [])).2.1 (runP a14 (strm 0 l) (false, [])).2.2 a14 false [] (by rw [List.length_map]; omega) n os 0 [] [] rfl (by rw [List.nil_append, e2])
 rw [List.nil_append, e2] at h5
 exact h5.trans hn
theorem links_l0 (l : List EV) (h1 : l.length ≤ 2500) (h2 : tot l ≤ 2500) (hl : ∀ e ∈ l, e.1 = 0 ∨ e.1 = 1) (a0 a1 : Int) (a2 : List S5) (a3 : List PB) (a4 : List RU) (a5 : List Int) (a6 : List V) (a7 a8 : Int) (a9 : List S5) (a10 : List PB) (a11 : List RU) (a12 : List Int) (a13 : List V) (a14 : Int) (hg : greatC ((((a0, a1, a2), (a3, a4), a5, a6), (a7, a8, a9), (a10, a11), a12, a13), a14) = false) (ok : CfgOk ((((a0, a1, a2), (a3, a4), a5, a6), (a7, a8, a9), (a10, a11), a12, a13), a14)) :
  ∀ (m p : List EV) (d : Int), l = p ++ m → ∃ n, groattop_TopLinks.l0 n l l (l.length : Int) (p.length : Int) a0 a1 a2 a3 a4 a5 a6 a7 a8 a9 a10 a11 a12 a13 a14 a0 a1 a2 a3 a4 a5 a6 a7 a8 a9 a10 a11 a12 a13 a14 d a14 (runP a14 (strm 0 p) (false, [])).2.1 (runP a14 (strm 0 p) (false, [])).2.2 a14 (runP a14 (strm 1 p) (false, [])).2.1 (runP a14 (strm 1 p) (false, [])).2.2 ((runP a14 (strm 0 p) (false, [])).1.map (outZ ((((a0, a1, a2), (a3, a4), a5, a6), (a7, a8, a9), (a10, a11), a12, a13), a14) 0)) ((runP a14 (strm 1 p) (false, [])).1.map (outZ ((((a0, a1, a2), (a3, a4), a5, a6), (a7, a8, a9), (a10, a11), a12, a13), a14) 1)) [] [] = some true
 | [], p, d, hd => by
  rw [List.append_nil] at hd
  subst hd
  obtain ⟨n, hn⟩ := links_0 l h1 h2 a0 a1 a2 a3 a4 a5 a6 a7 a8 a9 a10 a11 a12 a13 a14 hg ok d a14 (runP a14 (strm 0 l) (false, [])).2.1 (runP a14 (strm 0 l) (false, [])).2.2 a14 (runP a14 (strm 1 l) (false, [])).2.1 (runP a14 (strm 1 l) (false, [])).2.2
  refine ⟨n + 1, ?_⟩
  rw [groattop_TopLinks.l0_eq, if_neg (by omega)]
  simp only [Bool.decide_eq_true]
  exact hn
 | (link, ch) :: m, p, d, hd => by
  obtain ⟨ch, rfl⟩ := ex_sb ch
  have hp : l.length = p.length + (m.length + 1) := by rw [hd, List.length_append, List.length_cons]
  have ht : tot p + (ch.length + tot m) ≤ 2500 := by
   have := h2
   rw [hd, tot_append, tot] at this
   dsimp only at this
   rw [size_sb] at this
   exact this
  have hk : link = 0 ∨ link = 1 := hl (link, sb ch) (by rw [hd]; exact List.mem_append_right _ (List.mem_cons_self ..))
  have hget : lget l (p.length : Int) = some (link, sb ch) := (dropc (m := m) (a := (link, sb ch)) (by rw [hd, List.drop_left])).2.2.2
  have n0 := strm_length 0 p
  have n1 := strm_length 1 p
  have r0 := runP_length a14 (strm 0 p) (false, [])
  have r1 := runP_length a14 (strm 1 p) (false, [])
  dsimp only [List.length_nil] at r0 r1
  obtain ⟨os, e, e1, e2⟩ := gateway_Feed ((((a0, a1, a2), (a3, a4), a5, a6), (a7, a8, a9), (a10, a11), a12, a13), a14) hg ok d a14 (runP a14 (strm 0 p) (false, [])).2 a14 (runP a14 (strm 1 p) (false, [])).2 (by omega) (by omega) link hk ch (by omega)
  obtain ⟨n, hn⟩ := links_l0 l h1 h2 hl a0 a1 a2 a3 a4 a5 a6 a7 a8 a9 a10 a11 a12 a13 a14 hg ok m (p ++ [(link, sb ch)]) e (by rw [List.append_assoc]; exact hd)
  have w : (((p ++ [(link, sb ch)]).length : Nat) : Int) = IntKind.wrap .i64 ((p.length : Int) + 1) := by rw [wrap_succ (by omega), List.length_append]; rfl
  rw [w] at hn
  refine ⟨n + os.length + 1 + 1, ?_⟩
  rw [groattop_TopLinks.l0_eq, if_pos (by omega), hget, Option.bind_some]
  simp only [Bool.decide_eq_true]
  rcases hk with rfl | rfl
  ·simp (decide := true) only [if_true, if_false] at e1 e2
   have rr := runP_length a14 ch (runP a14 (strm 0 p) (false, [])).2
   have ho : os.length ≤ 2500 := by
    have := congrArg List.length e2
    rw [List.length_map, List.length_map] at this
    omega
   have s1 : strm 0 (p ++ [(0, sb ch)]) = strm 0 p ++ ch := by rw [strm_append, strm, strm, if_pos rfl, bl_sb, List.append_nil]
   have s2 : strm 1 (p ++ [(0, sb ch)]) = strm 1 p := by rw [strm_append, strm, strm, if_neg (show ¬ ((0 : Int) = 1) by decide), List.append_nil, List.append_nil]
   rw [s1, s2, runP_append, List.map_append, ← e2] at hn
   rw [e1, Option.bind_some]
   dsimp only at hn ⊢
   exact (links_l1_0 l _ os (by omega) a0 a1 a2 a3 a4 a5 a6 a7 a8 a9 a10 a11 a12 a13 a14 e a14 _ _ a14 _ _ [] [] (sb ch) n os 0 _ _ rfl (by rw [List.length_map]; omega)).trans hn
  ·simp (decide := true) only [if_true, if_false] at e1 e2
   have rr := runP_length a14 ch (runP a14 (strm 1 p) (false, [])).2
   have ho : os.length ≤ 2500 := by
    have := congrArg List.length e2
    rw [List.length_map, List.length_map] at this
    omega
   have s1 : strm 1 (p ++ [(1, sb ch)]) = strm 1 p ++ ch := by rw [strm_append, strm, strm, if_pos rfl, bl_sb, List.append_nil]
   have s2 : strm 0 (p ++ [(1, sb ch)]) = strm 0 p := by rw [strm_append, strm, strm, if_neg (show ¬ ((1 : Int) = 0) by decide), List.append_nil, List.append_nil]
   rw [s1, s2, runP_append, List.map_append, ← e2] at hn
   rw [e1, Option.bind_some]
   dsimp only at hn ⊢
   exact (links_l1_1 l _ os (by omega) a0 a1 a2 a3 a4 a5 a6 a7 a8 a9 a10 a11 a12 a13 a14 e a14 _ _ a14 _ _ [] [] (sb ch) n os 0 _ _ rfl (by rw [List.length_map]; omega)).trans hn
theorem groattop_TopLinks.holds (x : CFG × List (Int × ByteArray)) (w : Wf (sgTy groattop_TopLinks.sg) x) : ∃ n, call groattop_TopLinks.C Tryz.f7 groattop_TopLinks.code groattop_TopLinks.sg groattop_TopLinks.rs n x = some true := by
 obtain ⟨⟨⟨⟨⟨a0, a1, a2⟩, ⟨a3, a4⟩, a5, a6⟩, ⟨a7, a8, a9⟩, ⟨a10, a11⟩, a12, a13⟩, a14⟩, l⟩ := x
 have dead : ((groattop_live.f ()).bind fun b7 => some (decide (b7 = true))) = some true := rfl
 have live : ∀ {z : Bool → Option Bool}, (groattop_live.f ()).bind z = z true := rfl
 have start := fun n => groattop_TopLinks.eq n a0 a1 a2 a3 a4 a5 a6 a7 a8 a9 a10 a11 a12 a13 a14 l
 simp only [dead] at start
 cases g0 : greatC ((((a0, a1, a2), (a3, a4), a5, a6), (a7, a8, a9), (a10, a11), a12, a13), a14) with
 | true => exact ⟨0, by rw [start, live, if_neg (by simp), r24_Great, Option.bind_some, g0, if_pos rfl]⟩
 | false =>
  obtain ⟨b, hb, ok⟩ := r24_Right ((((a0, a1, a2), (a3, a4), a5, a6), (a7, a8, a9), (a10, a11), a12, a13), a14) g0
  cases b with
  | false => exact ⟨0, by rw [start, live, if_neg (by simp), r24_Great, Option.bind_some, g0, if_neg (by simp), hb, Option.bind_some, if_pos (by simp)]⟩
  | true =>
   have ok := ok rfl
   have er : groattop_right.f (l, 2500) = some (!greatE 2500 l (l.length : Int) && okE l) := rfl
   cases g1 : (!greatE 2500 l (l.length : Int) && okE l) with
   | false => exact ⟨0, by rw [start, live, if_neg (by simp), r24_Great, Option.bind_some, g0, if_neg (by simp), hb, Option.bind_some, if_neg (by simp), er, Option.bind_some, g1, if_pos (by simp)]⟩
   | true =>
    rw [Bool.and_eq_true, Bool.not_eq_true'] at g1
    obtain ⟨g1, g2⟩ := g1
    have ht := greatE_no l l.length g1
    obtain ⟨n, hn⟩ := links_l0 l (by omega) (by omega) (okE_mem g2) a0 a1 a2 a3 a4 a5 a6 a7 a8 a9 a10 a11 a12 a13 a14 g0 ok l [] 0 rfl
    refine ⟨n, ?_⟩
    rw [start, live, if_neg (by simp), r24_Great, Option.bind_some, g0, if_neg (by simp), hb, Option.bind_some, if_neg (by simp), er, Option.bind_some, g1, g2, if_neg (by simp), gateway_New ((((a0, a1, a2), (a3, a4), a5, a6), (a7, a8, a9), (a10, a11), a12, a13), a14) g0 ok, Option.bind_some]
    dsimp only
    rw [if_neg (not_not_intro rfl)]
    simp only [Bool.decide_eq_true]
    exact hn
end Go.Proofs.YtkaihbkfobiejaaGreatDoor.Xe
