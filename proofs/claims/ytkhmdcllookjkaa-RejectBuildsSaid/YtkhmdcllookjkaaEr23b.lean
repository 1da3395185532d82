/- What the reference's Build of a refusal answers. -/
import Derived.Test.YtkhmdcllookjkaaEr15b
import Derived.Test.YtkhmdcllookjkaaEr16
namespace Go.Proofs.Ytkhmdcllookjkaa.Xe
open Go Go.RowKit Go.Proofs.Ytkhmdcllookjkaa.Sp
set_option linter.unusedVariables false
set_option linter.unusedSimpArgs false
set_option maxRecDepth 100000
/-! ### groatref23_Build -/
@[reducible] def groatref23_Build.sg : List Shp := [.a (.pair (.pair (.int .i64) (.pair (.int .i64) (.sl (.pair (.int .i64) (.pair (.int .i64) (.pair (.int .i64) (.pair (.int .i64) (.int .i64)))))))) (.pair (.pair (.sl (.pair (.str) (.str))) (.sl (.pair (.int .i64) (.pair (.int .i64) (.pair (.int .i64) (.pair (.str) (.sl (.pair (.str) (.str))))))))) (.pair (.sl (.int .i64)) (.sl (.pair (.int .i64) (.str)))))), .a (.pair (.str) (.sl (.pair (.int .i64) (.str)))), .a (.pair (.int .i64) (.int .i64))]
@[reducible] def groatref23_Build.rs : Rs := .tup [.a (.pair (.str) (.sl (.pair (.int .i64) (.str)))), .v (.bool)]
@[reducible] noncomputable def groatref23_Build.code : Code := Try.f39.body.getD .skip
noncomputable def groatref23_Build.C : Ctx := ⟨tab, [groatref16_With.c, groatref16_Find.c, groatref23_Code.c, groatref15_Request.c, groatref15_Response.c], [], ⟨[(5, [3, 4, 5, 6, 8, 9], 5)], []⟩⟩
noncomputable def groatref23_Build.l0 (n : Nat) (v0 : Int) (v1 : Int) (v2 : Int) (v3 : List ((Int × (Int × (Int × (Int × Int)))))) (v4 : List ((ByteArray × ByteArray))) (v5 : List ((Int × (Int × (Int × (ByteArray × List ((ByteArray × ByteArray)))))))) (v6 : List Int) (v7 : List ((Int × ByteArray))) (v8 : ByteArray) (v9 : List ((Int × ByteArray))) (v10 : Int) (v11 : Int) (v12 : ByteArray) (v13 : ByteArray) : Option (((ByteArray × List ((Int × ByteArray))) × Bool)) := run groatref23_Build.C (finOf groatref23_Build.C Try.f39 groatref23_Build.rs) n (todoAt 5 groatref23_Build.code) ⟨[.junk, .junk, .junk, .ptr 0 0, .ptr 1 0, .ptr 2 0, .ptr 3 0, .junk, .ptr 4 0, .int .i64 v0, .junk, .junk, .junk, .junk, .junk, .junk, .junk, .junk, .junk, .junk, .junk, .junk, .junk, .junk, .junk, .junk, .junk, .junk, .junk, .junk, .junk, .junk, .junk, .junk, .junk, .junk, .junk, .junk, .junk, .junk, .junk, .junk, .junk, .junk, .junk, .junk, .junk, .junk, .junk, .junk, .junk, .junk, .junk, .junk, .junk], [[.int .i64 v1, .int .i64 v2, .sl none (.pair (.int .i64) (.pair (.int .i64) (.pair (.int .i64) (.pair (.int .i64) (.int .i64))))) v3, .sl none (.pair (.str) (.str)) v4, .sl none (.pair (.int .i64) (.pair (.int .i64) (.pair (.int .i64) (.pair (.str) (.sl (.pair (.str) (.str))))))) v5, .sl none (.int .i64) v6, .sl none (.pair (.int .i64) (.str)) v7], [.str v8, .sl none (.pair (.int .i64) (.str)) v9], [.int .i64 v10, .int .i64 v11], [.str v12, .nilsl], [.str v13, .nilsl]], []⟩
noncomputable def groatref23_Build.l1 (n : Nat) (v0 : Int) (v1 : Int) (v2 : Int) (v3 : List ((Int × (Int × (Int × (Int × Int)))))) (v4 : List ((ByteArray × ByteArray))) (v5 : List ((Int × (Int × (Int × (ByteArray × List ((ByteArray × ByteArray)))))))) (v6 : List Int) (v7 : List ((Int × ByteArray))) (v8 : ByteArray) (v9 : List ((Int × ByteArray))) (v10 : Int) (v11 : Int) (v12 : ByteArray) (v13 : ByteArray) (v14 : List ((Int × ByteArray))) : Option (((ByteArray × List ((Int × ByteArray))) × Bool)) := run groatref23_Build.C (finOf groatref23_Build.C Try.f39 groatref23_Build.rs) n (todoAt 5 groatref23_Build.code) ⟨[.junk, .junk, .junk, .ptr 0 0, .ptr 1 0, .ptr 2 0, .ptr 3 0, .junk, .ptr 4 0, .int .i64 v0, .junk, .junk, .junk, .junk, .junk, .junk, .junk, .junk, .junk, .junk, .junk, .junk, .junk, .junk, .junk, .junk, .junk, .junk, .junk, .junk, .junk, .junk, .junk, .junk, .junk, .junk, .junk, .junk, .junk, .junk, .junk, .junk, .junk, .junk, .junk, .junk, .junk, .junk, .junk, .junk, .junk, .junk, .junk, .junk, .junk], [[.int .i64 v1, .int .i64 v2, .sl none (.pair (.int .i64) (.pair (.int .i64) (.pair (.int .i64) (.pair (.int .i64) (.int .i64))))) v3, .sl none (.pair (.str) (.str)) v4, .sl none (.pair (.int .i64) (.pair (.int .i64) (.pair (.int .i64) (.pair (.str) (.sl (.pair (.str) (.str))))))) v5, .sl none (.int .i64) v6, .sl none (.pair (.int .i64) (.str)) v7], [.str v8, .sl none (.pair (.int .i64) (.str)) v9], [.int .i64 v10, .int .i64 v11], [.str v12, .nilsl], [.str v13, .sl none (.pair (.int .i64) (.str)) v14]], []⟩
-- the loop at region 5
theorem groatref23_Build.l0_eq (n : Nat) (v0 : Int) (v1 : Int) (v2 : Int) (v3 : List ((Int × (Int × (Int × (Int × Int)))))) (v4 : List ((ByteArray × ByteArray))) (v5 : List ((Int × (Int × (Int × (ByteArray × List ((ByteArray × ByteArray)))))))) (v6 : List Int) (v7 : List ((Int × ByteArray))) (v8 : ByteArray) (v9 : List ((Int × ByteArray))) (v10 : Int) (v11 : Int) (v12 : ByteArray) (v13 : ByteArray) : groatref23_Build.l0 (n + 1) v0 v1 v2 v3 v4 v5 v6 v7 v8 v9 v10 v11 v12 v13 =
  (if v0 < (↑(List.length v6) : Int) then ((lget v6 v0).bind fun b2 =>
   ((groatref16_Find.f ((v8, v9), b2)).bind fun b3 =>
   (if b3 ≥ 0 then ((lget v6 v0).bind fun b4 =>
    ((lget v9 b3).bind fun b5 =>
    ((groatref16_With.f ((v13, []), b4, Prod.snd b5)).bind fun b6 =>
    (groatref23_Build.l1 n (IntKind.wrap IntKind.i64 (v0 + 1)) v1 v2 v3 v4 v5 v6 v7 v8 v9 v10 v11 v12 (Prod.fst b6) (Prod.snd b6)))))
   else (groatref23_Build.l0 n (IntKind.wrap IntKind.i64 (v0 + 1)) v1 v2 v3 v4 v5 v6 v7 v8 v9 v10 v11 v12 v13))))
  else ((groatref23_Code.f (((v1, v2, v3), (v4, v5), v6, v7), v10)).bind fun b7 =>
   ((groatref16_With.f ((v13, []), 39, b7)).bind fun b8 =>
   (some ((b8, true)))))) := by kernel_rfl
-- the loop at region 5
theorem groatref23_Build.l1_eq (n : Nat) (v0 : Int) (v1 : Int) (v2 : Int) (v3 : List ((Int × (Int × (Int × (Int × Int)))))) (v4 : List ((ByteArray × ByteArray))) (v5 : List ((Int × (Int × (Int × (ByteArray × List ((ByteArray × ByteArray)))))))) (v6 : List Int) (v7 : List ((Int × ByteArray))) (v8 : ByteArray) (v9 : List ((Int × ByteArray))) (v10 : Int) (v11 : Int) (v12 : ByteArray) (v13 : ByteArray) (v14 : List ((Int × ByteArray))) : groatref23_Build.l1 (n + 1) v0 v1 v2 v3 v4 v5 v6 v7 v8 v9 v10 v11 v12 v13 v14 =
  (if v0 < (↑(List.length v6) : Int) then ((lget v6 v0).bind fun b9 =>
   ((groatref16_Find.f ((v8, v9), b9)).bind fun b10 =>
   (if b10 ≥ 0 then ((lget v6 v0).bind fun b11 =>
    ((lget v9 b10).bind fun b12 =>
    ((groatref16_With.f ((v13, v14), b11, Prod.snd b12)).bind fun b13 =>
    (groatref23_Build.l1 n (IntKind.wrap IntKind.i64 (v0 + 1)) v1 v2 v3 v4 v5 v6 v7 v8 v9 v10 v11 v12 (Prod.fst b13) (Prod.snd b13)))))
   else (groatref23_Build.l1 n (IntKind.wrap IntKind.i64 (v0 + 1)) v1 v2 v3 v4 v5 v6 v7 v8 v9 v10 v11 v12 v13 v14))))
  else ((groatref23_Code.f (((v1, v2, v3), (v4, v5), v6, v7), v10)).bind fun b14 =>
   ((groatref16_With.f ((v13, v14), 39, b14)).bind fun b15 =>
   (some ((b15, true)))))) := by kernel_rfl
theorem groatref23_Build.eq (n : Nat) (a0 : Int) (a1 : Int) (a2 : List ((Int × (Int × (Int × (Int × Int)))))) (a3 : List ((ByteArray × ByteArray))) (a4 : List ((Int × (Int × (Int × (ByteArray × List ((ByteArray × ByteArray)))))))) (a5 : List Int) (a6 : List ((Int × ByteArray))) (a7 : ByteArray) (a8 : List ((Int × ByteArray))) (a9 : Int) (a10 : Int) : call groatref23_Build.C Try.f39 groatref23_Build.code groatref23_Build.sg groatref23_Build.rs n (((a0, (a1, a2)), ((a3, a4), (a5, a6))), ((a7, a8), (a9, a10))) =
  ((groatref15_Request.f a7).bind fun b0 =>
  (if ¬b0 = true then (some (((ByteArray.mk #[], []), false)))
  else ((groatref15_Response.f a7).bind fun b1 =>
   (groatref23_Build.l0 n 0 a0 a1 a2 a3 a4 a5 a6 a7 a8 a9 a10 (ByteArray.mk #[]) b1)))) := by kernel_rfl
def groatref23_Build.f (x : RJ × (ByteArray × List V) × Int × Int) : Option ((ByteArray × List V) × Bool) := if x.1.2.2.1.length ≤ 100000 ∧ x.1.2.2.2.length ≤ 1000000 ∧ x.2.1.2.length ≤ 1000000 ∧ x.2.1.1.size ≤ 1000000000000 then some (rejB x.1 (bl x.2.1.1) x.2.1.2 x.2.2.1) else none
theorem echoed_length (l : List V) : ∀ (m : List Int) (o : List V), (echoed l m o).length ≤ o.length + m.length
  | [], o => Nat.le_refl _
  | x :: m, o => by
    rw [echoed, List.length_cons]
    split
    · have := echoed_length l m (withV x (getV x l).1 o)
      have := withV_length' x (getV x l).1 o
      omega
    · have := echoed_length l m o
      omega
theorem rejB_length (x : RJ) (t : List UInt8) (l : List V) (y : Int) (h : x.2.2.1.length ≤ 100000) : (rejB x t l y).1.2.length ≤ 1000000 := by
  unfold rejB
  split
  · have := withV_length' 39 (codeV y x.2.2.2) (echoed l x.2.2.1 [])
    have := echoed_length l x.2.2.1 []
    simp only [List.length_nil] at this
    dsimp only
    omega
  · simp
theorem findV_pick (x : Int) (g : List V) (hg : g.length ≤ 1000000) : (findV x 0 g < 0 ∧ (getV x g).2 = false) ∨ (findV x 0 g ≥ 0 ∧ (getV x g).2 = true ∧ ∃ v, lget g (findV x 0 g) = some v ∧ v.2 = (getV x g).1) := by
  rcases findV_get x g 0 with ⟨h1, h2⟩ | ⟨k, h1, h2, h3⟩
  · exact .inl ⟨h1, by rw [h2]⟩
  · refine .inr ⟨by rw [h1]; omega, by rw [h3], g[k], ?_, by rw [h3]⟩
    rw [h1, Nat.zero_add, lget_nat _ _ h2]
theorem groatref23_Build_l1 (q1 q2 : Int) (s : List S5) (c1 : List (ByteArray × ByteArray)) (c2 : List (Int × Int × Int × ByteArray × List (ByteArray × ByteArray))) (e : List Int) (he : e.length ≤ 100000) (l : List V) (hl : l.length ≤ 1000000) (t u v : ByteArray) (g : List V) (hg : g.length ≤ 1000000) (y z : Int) :
    ∀ (m : List Int) (o : List V) (k i : Nat), e.drop i = m → o.length ≤ i ∧ i ≤ e.length → m.length < k →
    groatref23_Build.l1 k (i : Int) q1 q2 s c1 c2 e l t g y z v u o = some ((u, withV 39 (codeV y l) (echoed g m o)), true)
  | [], o, k, i, hd, ho, hk => by
    obtain ⟨k, rfl⟩ : ∃ m, k = m + 1 := ⟨k - 1, by omega⟩
    have := dropn hd
    rw [groatref23_Build.l1_eq, if_neg (by omega), groatref23_Code (q1, q2, s) (c1, c2) e l hl y, Option.bind_some, groatref16_With u o (by omega), Option.bind_some]; rfl
  | x :: m, o, k, i, hd, ho, hk => by
    obtain ⟨k, rfl⟩ : ∃ m, k = m + 1 := ⟨k - 1, by omega⟩
    obtain ⟨h1, h2, h3, h4⟩ := dropc hd
    have hk' : m.length < k := by simp at hk; omega
    rw [groatref23_Build.l1_eq, if_pos (by omega), h4, Option.bind_some, groatref16_Find t g hg, Option.bind_some, wrap_succ (by omega), echoed]
    rcases findV_pick x g hg with ⟨n1, n2⟩ | ⟨n1, n2, w, n3, n4⟩
    · rw [if_neg (show ¬ findV x 0 g ≥ 0 by omega), if_neg (show ¬ (getV x g).2 = true by rw [n2]; simp)]
      exact groatref23_Build_l1 q1 q2 s c1 c2 e he l hl t u v g hg y z m o k (i + 1) h2 ⟨by omega, h1⟩ hk'
    · have hw := withV_length' x (getV x g).1 o
      rw [if_pos n1, if_pos n2, Option.bind_some, n3, Option.bind_some, n4, groatref16_With u o (by omega), Option.bind_some]
      exact groatref23_Build_l1 q1 q2 s c1 c2 e he l hl t u v g hg y z m _ k (i + 1) h2 ⟨by show (withV x (getV x g).1 o).length ≤ i + 1; omega, h1⟩ hk'
theorem groatref23_Build_l0 (q1 q2 : Int) (s : List S5) (c1 : List (ByteArray × ByteArray)) (c2 : List (Int × Int × Int × ByteArray × List (ByteArray × ByteArray))) (e : List Int) (he : e.length ≤ 100000) (l : List V) (hl : l.length ≤ 1000000) (t u v : ByteArray) (g : List V) (hg : g.length ≤ 1000000) (y z : Int) :
    ∀ (m : List Int) (k i : Nat), e.drop i = m → m.length < k →
    groatref23_Build.l0 k (i : Int) q1 q2 s c1 c2 e l t g y z v u = some ((u, withV 39 (codeV y l) (echoed g m [])), true)
  | [], k, i, hd, hk => by
    obtain ⟨k, rfl⟩ : ∃ m, k = m + 1 := ⟨k - 1, by omega⟩
    have := dropn hd
    rw [groatref23_Build.l0_eq, if_neg (by omega), groatref23_Code (q1, q2, s) (c1, c2) e l hl y, Option.bind_some, groatref16_With u [] (by decide), Option.bind_some]; rfl
  | x :: m, k, i, hd, hk => by
    obtain ⟨k, rfl⟩ : ∃ m, k = m + 1 := ⟨k - 1, by omega⟩
    obtain ⟨h1, h2, h3, h4⟩ := dropc hd
    have hk' : m.length < k := by simp at hk; omega
    rw [groatref23_Build.l0_eq, if_pos (by omega), h4, Option.bind_some, groatref16_Find t g hg, Option.bind_some, wrap_succ (by omega), echoed]
    rcases findV_pick x g hg with ⟨n1, n2⟩ | ⟨n1, n2, w, n3, n4⟩
    · rw [if_neg (show ¬ findV x 0 g ≥ 0 by omega), if_neg (show ¬ (getV x g).2 = true by rw [n2]; simp)]
      exact groatref23_Build_l0 q1 q2 s c1 c2 e he l hl t u v g hg y z m k (i + 1) h2 hk'
    · have hw := withV_length' x (getV x g).1 []
      rw [if_pos n1, if_pos n2, Option.bind_some, n3, Option.bind_some, n4, groatref16_With u [] (by decide), Option.bind_some]
      exact groatref23_Build_l1 q1 q2 s c1 c2 e he l hl t u v g hg y z m _ k (i + 1) h2 ⟨by simp only [List.length_nil] at hw; show (withV x (getV x g).1 []).length ≤ i + 1; omega, h1⟩ hk'
theorem groatref23_Build (s : Int × Int × List S5) (c : RC) (e : List Int) (he : e.length ≤ 100000) (l : List V) (hl : l.length ≤ 1000000) (t : List UInt8) (ht : t.length ≤ 1000000000000) (g : List V) (hg : g.length ≤ 1000000) (y z : Int) : groatref23_Build.f ((s, c, e, l), (sb t, g), y, z) = some (rejB (s, c, e, l) t g y) := if_pos ⟨he, hl, hg, by rw [size_sb]; exact ht⟩
noncomputable def groatref23_Build.c : Con := ⟨39, groatref23_Build.sg, groatref23_Build.rs, groatref23_Build.f⟩
theorem groatref23_Build.con : ConOk Try.prog groatref23_Build.c := walked (C := groatref23_Build.C) rfl (by kernel_rfl) (by kernel_rfl) (by kernel_rfl) rfl ⟨groatref16_With.con, groatref16_Find.con, groatref23_Code.con, groatref15_Request.con, groatref15_Response.con, trivial⟩ fun ⟨⟨⟨q1, q2, s⟩, ⟨c1, c2⟩, e, l⟩, ⟨t, g⟩, y, z⟩ r h => by
  obtain ⟨t, rfl⟩ := ex_sb t
  have h : groatref23_Build.f (((q1, q2, s), (c1, c2), e, l), (sb t, g), y, z) = some r := h
  unfold groatref23_Build.f at h
  split at h
  · rename_i hc
    obtain ⟨he, hl, hg, ht⟩ := hc
    have ht : t.length ≤ 1000000000000 := by have ht : (sb t).size ≤ _ := ht; rwa [size_sb] at ht
    refine ⟨List.length (α := Int) e + 1, ?_⟩
    rw [groatref23_Build.eq, groatref15_Request t ht, Option.bind_some, ← h]
    show _ = some (rejB ((q1, q2, s), (c1, c2), e, l) t g y)
    unfold rejB
    by_cases c : asks t = true
    · rw [if_pos c, if_neg (not_not_intro c), groatref15_Response t c, Option.bind_some]
      exact groatref23_Build_l0 q1 q2 s c1 c2 e he l hl (sb t) (sb (answer t)) (ByteArray.mk #[]) g hg y z e _ 0 rfl (by omega)
    · rw [if_pos c, if_neg c]; rfl
  · cases h
end Go.Proofs.Ytkhmdcllookjkaa.Xe
