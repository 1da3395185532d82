/- What the program's schema.Restrict answers. -/
import Derived.Test.YtkaihbkfobiejaaGreatDoorNRes
import Derived.Test.YtkaihbkfobiejaaGreatDoorEga
import Derived.Test.YtkaihbkfobiejaaGreatDoorEms
namespace Go.Proofs.YtkaihbkfobiejaaGreatDoor.Xe
open Go Go.RowKit Go.Proofs.YtkaihbkfobiejaaGreatDoor.Sp
set_option linter.unusedVariables false
set_option linter.unusedSimpArgs false
set_option maxRecDepth 100000
/-! ### schema_Restrict -/
@[reducible] def schema_Restrict.sg : List Shp := [.a (.pair (.int .i64) (.pair (.int .i64) (.sl (.pair (.int .i64) (.pair (.int .i64) (.pair (.int .i64) (.pair (.int .i64) (.int .i64)))))))), .a (.pair (.int .u64) (.int .u64))]
@[reducible] def schema_Restrict.rs : Rs := .one (.a (.pair (.int .i64) (.pair (.int .i64) (.sl (.pair (.int .i64) (.pair (.int .i64) (.pair (.int .i64) (.pair (.int .i64) (.int .i64)))))))))
@[reducible] noncomputable def schema_Restrict.code : Code := Tryz.f20.body.getD .skip
noncomputable def schema_Restrict.C : Ctx := ⟨tab, [fields_Set_Has.c], [], ⟨[(5, [3, 4, 5, 18, 19, 20], 4)], []⟩⟩
noncomputable def schema_Restrict.l0 (n : Nat) (v0 : List ((Int × (Int × (Int × (Int × Int)))))) (v1 : Int) (v2 : Int) (v3 : Int) (v4 : Int) (v5 : List ((Int × (Int × (Int × (Int × Int)))))) (v6 : Int) (v7 : Int) (v8 : Int) (v9 : Int) (v10 : Int) (v11 : Int) : Option ((Int × (Int × List ((Int × (Int × (Int × (Int × Int)))))))) := run schema_Restrict.C (finOf schema_Restrict.C Tryz.f20 schema_Restrict.rs) n (todoAt 5 schema_Restrict.code) ⟨[.junk, .junk, .junk, .ptr 1 0, .ptr 2 0, .ptr 3 0, .junk, .junk, .junk, .junk, .junk, .junk, .junk, .junk, .junk, .junk, .junk, .junk, .sl none (.pair (.int .i64) (.pair (.int .i64) (.pair (.int .i64) (.pair (.int .i64) (.int .i64))))) v0, .int .i64 v1, .int .i64 v2, .junk, .junk, .junk, .junk, .junk, .junk, .junk, .junk, .junk, .junk, .junk, .junk, .junk, .junk, .junk], [[.int .i64 v3, .int .i64 v4, .sl none (.pair (.int .i64) (.pair (.int .i64) (.pair (.int .i64) (.pair (.int .i64) (.int .i64))))) v5], [.int .u64 v6, .int .u64 v7], [.int .i64 v8, .int .i64 v9, .nilsl], [.int .i64 v10, .int .i64 v11, .nilsl]], []⟩
noncomputable def schema_Restrict.l1 (n : Nat) (v0 : List ((Int × (Int × (Int × (Int × Int)))))) (v1 : Int) (v2 : Int) (v3 : Int) (v4 : Int) (v5 : List ((Int × (Int × (Int × (Int × Int)))))) (v6 : Int) (v7 : Int) (v8 : Int) (v9 : Int) (v10 : Int) (v11 : Int) (v12 : List ((Int × (Int × (Int × (Int × Int)))))) : Option ((Int × (Int × List ((Int × (Int × (Int × (Int × Int)))))))) := run schema_Restrict.C (finOf schema_Restrict.C Tryz.f20 schema_Restrict.rs) n (todoAt 5 schema_Restrict.code) ⟨[.junk, .junk, .junk, .ptr 1 0, .ptr 2 0, .ptr 3 0, .junk, .junk, .junk, .junk, .junk, .junk, .junk, .junk, .junk, .junk, .junk, .junk, .sl none (.pair (.int .i64) (.pair (.int .i64) (.pair (.int .i64) (.pair (.int .i64) (.int .i64))))) v0, .int .i64 v1, .int .i64 v2, .junk, .junk, .junk, .junk, .junk, .junk, .junk, .junk, .junk, .junk, .junk, .junk, .junk, .junk, .junk], [[.int .i64 v3, .int .i64 v4, .sl none (.pair (.int .i64) (.pair (.int .i64) (.pair (.int .i64) (.pair (.int .i64) (.int .i64))))) v5], [.int .u64 v6, .int .u64 v7], [.int .i64 v8, .int .i64 v9, .nilsl], [.int .i64 v10, .int .i64 v11, .sl (some 0) (.pair (.int .i64) (.pair (.int .i64) (.pair (.int .i64) (.pair (.int .i64) (.int .i64))))) v12]], [true]⟩
-- the loop at region 5
theorem schema_Restrict.l0_eq (n : Nat) (v0 : List ((Int × (Int × (Int × (Int × Int)))))) (v1 : Int) (v2 : Int) (v3 : Int) (v4 : Int) (v5 : List ((Int × (Int × (Int × (Int × Int)))))) (v6 : Int) (v7 : Int) (v8 : Int) (v9 : Int) (v10 : Int) (v11 : Int) : schema_Restrict.l0 (n + 1) v0 v1 v2 v3 v4 v5 v6 v7 v8 v9 v10 v11 =
  (if v2 < v1 then ((lget v0 v2).bind fun b0 =>
   ((fields_Set_Has.f ((v6, v7), Prod.fst b0)).bind fun b1 =>
   (if b1 = true then ((lcat 40 [] [b0]).bind fun b2 =>
    (schema_Restrict.l1 n v0 v1 (IntKind.wrap IntKind.i64 (v2 + 1)) v3 v4 v5 v6 v7 v8 v9 v10 v11 b2))
   else (schema_Restrict.l0 n v0 v1 (IntKind.wrap IntKind.i64 (v2 + 1)) v3 v4 v5 v6 v7 v8 v9 v10 v11))))
  else (some ((v10, v11, [])))) := by kernel_rfl
-- the loop at region 5
theorem schema_Restrict.l1_eq (n : Nat) (v0 : List ((Int × (Int × (Int × (Int × Int)))))) (v1 : Int) (v2 : Int) (v3 : Int) (v4 : Int) (v5 : List ((Int × (Int × (Int × (Int × Int)))))) (v6 : Int) (v7 : Int) (v8 : Int) (v9 : Int) (v10 : Int) (v11 : Int) (v12 : List ((Int × (Int × (Int × (Int × Int)))))) : schema_Restrict.l1 (n + 1) v0 v1 v2 v3 v4 v5 v6 v7 v8 v9 v10 v11 v12 =
  (if v2 < v1 then ((lget v0 v2).bind fun b3 =>
   ((fields_Set_Has.f ((v6, v7), Prod.fst b3)).bind fun b4 =>
   (if b4 = true then ((lcat 40 v12 [b3]).bind fun b5 =>
    (schema_Restrict.l1 n v0 v1 (IntKind.wrap IntKind.i64 (v2 + 1)) v3 v4 v5 v6 v7 v8 v9 v10 v11 b5))
   else (schema_Restrict.l1 n v0 v1 (IntKind.wrap IntKind.i64 (v2 + 1)) v3 v4 v5 v6 v7 v8 v9 v10 v11 v12))))
  else (some ((v10, v11, v12)))) := by kernel_rfl
theorem schema_Restrict.eq (n : Nat) (a0 : Int) (a1 : Int) (a2 : List ((Int × (Int × (Int × (Int × Int)))))) (a3 : Int) (a4 : Int) : call schema_Restrict.C Tryz.f20 schema_Restrict.code schema_Restrict.sg schema_Restrict.rs n ((a0, (a1, a2)), (a3, a4)) =
  (if a3 = 0 ∧ a4 = 0 ∧ True then (some ((a0, a1, [])))
  else (schema_Restrict.l0 n a2 ((↑(List.length a2) : Int)) 0 a0 a1 a2 a3 a4 0 0 a0 a1)) := by kernel_rfl
def schema_Restrict.f (x : (Int × Int × List S5) × Int × Int) : Option (Int × Int × List S5) := if x.1.2.2.length ≤ 1000000 ∧ 0 ≤ x.2.1 ∧ x.2.1 < 18446744073709551616 ∧ 0 ≤ x.2.2 ∧ x.2.2 < 18446744073709551616 then some (x.1.1, x.1.2.1, restS x.2.1.toNat x.2.2.toNat x.1.2.2) else none
theorem schema_Restrict (a b : Int) (s : List S5) (hs : s.length ≤ 1000000) (h g : Nat) (hh : h < 18446744073709551616) (hg : g < 18446744073709551616) : schema_Restrict.f ((a, b, s), (h : Int), (g : Int)) = some (a, b, restS h g s) := by
  unfold schema_Restrict.f
  rw [if_pos ⟨hs, by dsimp only; omega, by dsimp only; omega, by dsimp only; omega, by dsimp only; omega⟩]
  rfl
section
variable (a b : Int) (s : List S5) (hs : s.length ≤ 1000000) (h g : Nat) (hh : h < 18446744073709551616) (hg : g < 18446744073709551616) (q1 q2 : Int)
include hs hh hg
theorem schema_Restrict_l1 : ∀ (m o : List S5) (k i : Nat), s.drop i = m → o.length ≤ i → m.length < k → schema_Restrict.l1 k s (s.length : Int) (i : Int) a b s (h : Int) (g : Int) q1 q2 a b o = some (a, b, o ++ restS h g m)
  | [], o, k, i, hd, ho, hk => by
    obtain ⟨k, rfl⟩ : ∃ m, k = m + 1 := ⟨k - 1, by omega⟩
    have := dropn hd
    rw [schema_Restrict.l1_eq, if_neg (by omega)]
    unfold restS; simp
  | v :: m, o, k, i, hd, ho, hk => by
    obtain ⟨k, rfl⟩ : ∃ m, k = m + 1 := ⟨k - 1, by omega⟩
    obtain ⟨h1, h2, h3, h4⟩ := dropc hd
    have hk' : m.length < k := by simp at hk; omega
    rw [schema_Restrict.l1_eq, if_pos (by omega), h4, Option.bind_some, fields_Set_Has h g hh hg, Option.bind_some, wrap_succ (by omega)]
    unfold restS
    rw [List.filter_cons]
    cases c : fhas h g v.1
    · rw [if_neg (by simp), if_neg (by simp)]
      exact schema_Restrict_l1 m o k (i + 1) h2 (by omega) hk'
    · rw [if_pos rfl, if_pos rfl, lcat_ok _ _ _ (by simp only [List.length_cons, List.length_nil]; omega), Option.bind_some]
      refine (schema_Restrict_l1 m (o ++ [v]) k (i + 1) h2 (by rw [List.length_append, List.length_singleton]; omega) hk').trans ?_
      unfold restS
      rw [List.append_assoc]; rfl
theorem schema_Restrict_l0 : ∀ (m : List S5) (k i : Nat), s.drop i = m → m.length < k → schema_Restrict.l0 k s (s.length : Int) (i : Int) a b s (h : Int) (g : Int) q1 q2 a b = some (a, b, restS h g m)
  | [], k, i, hd, hk => by
    obtain ⟨k, rfl⟩ : ∃ m, k = m + 1 := ⟨k - 1, by omega⟩
    have := dropn hd
    rw [schema_Restrict.l0_eq, if_neg (by omega)]; rfl
  | v :: m, k, i, hd, hk => by
    obtain ⟨k, rfl⟩ : ∃ m, k = m + 1 := ⟨k - 1, by omega⟩
    obtain ⟨h1, h2, h3, h4⟩ := dropc hd
    have hk' : m.length < k := by simp at hk; omega
    rw [schema_Restrict.l0_eq, if_pos (by omega), h4, Option.bind_some, fields_Set_Has h g hh hg, Option.bind_some, wrap_succ (by omega)]
    unfold restS
    rw [List.filter_cons]
    cases c : fhas h g v.1
    · rw [if_neg (by simp), if_neg (by simp)]
      exact schema_Restrict_l0 m k (i + 1) h2 hk'
    · rw [if_pos rfl, if_pos rfl, lcat_ok _ _ _ (by simp only [List.length_cons, List.length_nil]; omega), Option.bind_some]
      exact schema_Restrict_l1 a b s hs h g hh hg q1 q2 m [v] k (i + 1) h2 (by simp) hk'
end
noncomputable def schema_Restrict.c : Con := ⟨20, schema_Restrict.sg, schema_Restrict.rs, schema_Restrict.f⟩
theorem schema_Restrict.con : ConOk Tryz.prog schema_Restrict.c := walked (C := schema_Restrict.C) rfl (by kernel_rfl) (by kernel_rfl) (by kernel_rfl) rfl ⟨fields_Set_Has.con, trivial⟩ fun ⟨⟨a, b, s⟩, h, g⟩ y hy => by
  have hy : schema_Restrict.f ((a, b, s), h, g) = some y := hy
  unfold schema_Restrict.f at hy
  split at hy
  · rename_i hc
    obtain ⟨c1, c2, c3, c4, c5⟩ := hc
    dsimp only at c1 c2 c3 c4 c5
    obtain ⟨h, rfl⟩ := Int.eq_ofNat_of_zero_le c2
    obtain ⟨g, rfl⟩ := Int.eq_ofNat_of_zero_le c4
    refine ⟨s.length + 1, ?_⟩
    rw [schema_Restrict.eq, ← hy]
    by_cases c : (h : Int) = 0 ∧ (g : Int) = 0 ∧ True
    · rw [if_pos c]
      obtain rfl : h = 0 := by have := c.1; omega
      obtain rfl : g = 0 := by have := c.2.1; omega
      have : restS 0 0 s = [] := by
        unfold restS
        rw [List.filter_eq_nil_iff]
        intro x _
        unfold fhas
        simp
      show some (a, b, []) = some (a, b, restS 0 0 s)
      rw [this]
    · rw [if_neg c]
      exact schema_Restrict_l0 a b s c1 h g (by omega) (by omega) 0 0 s _ 0 rfl (by omega)
  · cases hy
end Go.Proofs.YtkaihbkfobiejaaGreatDoor.Xe
