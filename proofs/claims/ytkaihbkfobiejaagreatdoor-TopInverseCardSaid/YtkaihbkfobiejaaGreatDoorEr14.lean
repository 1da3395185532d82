/- What the reference's schemas are. -/
import Derived.Test.YtkaihbkfobiejaaGreatDoorEms
namespace Go.Proofs.YtkaihbkfobiejaaGreatDoor.Xe
open Go Go.RowKit Go.Proofs.YtkaihbkfobiejaaGreatDoor.Sp
set_option linter.unusedVariables false
set_option linter.unusedSimpArgs false
set_option maxRecDepth 100000
/-! ### groatref14_both -/
@[reducible] def groatref14_both.sg : List Shp := []
@[reducible] def groatref14_both.rs : Rs := .one (.v (.sl (.sl (.int .i64))))
@[reducible] noncomputable def groatref14_both.code : Code := Tryz.f75.body.getD .skip
noncomputable def groatref14_both.C : Ctx := ⟨tab, [], [], ⟨[], []⟩⟩
theorem groatref14_both.eq (n : Nat)  : call groatref14_both.C Tryz.f75 groatref14_both.code groatref14_both.sg groatref14_both.rs n () =
  (some ([[2, 1, 2, 12, 19, 1, 2, 12, 19], [3, 1, 1, 6, 6, 1, 1, 6, 6], [4, 1, 1, 12, 12, 1, 1, 12, 12], [7, 1, 1, 10, 10, 1, 1, 10, 10], [11, 1, 1, 6, 6, 1, 1, 6, 6], [12, 1, 1, 6, 6, 1, 1, 12, 12], [13, 1, 1, 4, 4, 0, 0, 0, 0], [14, 1, 1, 4, 4, 1, 1, 4, 4], [18, 1, 1, 4, 4, 0, 0, 0, 0], [22, 1, 1, 3, 3, 3, 1, 12, 12], [23, 1, 1, 3, 3, 1, 1, 3, 3], [26, 0, 0, 0, 0, 1, 1, 4, 4], [32, 1, 2, 1, 11, 1, 2, 1, 11], [35, 4, 2, 1, 37, 4, 2, 1, 37], [37, 3, 1, 12, 12, 3, 1, 12, 12], [38, 3, 1, 6, 6, 3, 1, 6, 6], [39, 3, 1, 2, 2, 1, 1, 3, 3], [41, 4, 1, 8, 8, 4, 1, 8, 8], [42, 4, 1, 15, 15, 4, 1, 15, 15], [43, 4, 1, 40, 40, 4, 2, 1, 99], [48, 4, 3, 1, 999, 4, 3, 1, 999], [49, 1, 1, 3, 3, 1, 1, 3, 3], [52, 5, 1, 8, 8, 5, 1, 8, 8], [55, 6, 3, 1, 255, 6, 3, 1, 255], [64, 5, 1, 8, 8, 5, 1, 8, 8], [70, 1, 1, 3, 3, 1, 1, 3, 3], [90, 1, 1, 42, 42, 0, 0, 0, 0], [102, 4, 2, 1, 28, 4, 2, 1, 28], [128, 5, 1, 8, 8, 5, 1, 8, 8]])) := by kernel_rfl
noncomputable def groatref14_both.f : El (sgTy groatref14_both.sg) → Option (El groatref14_both.rs.ty) := fun x => match x with
  | () =>
  (some ([[2, 1, 2, 12, 19, 1, 2, 12, 19], [3, 1, 1, 6, 6, 1, 1, 6, 6], [4, 1, 1, 12, 12, 1, 1, 12, 12], [7, 1, 1, 10, 10, 1, 1, 10, 10], [11, 1, 1, 6, 6, 1, 1, 6, 6], [12, 1, 1, 6, 6, 1, 1, 12, 12], [13, 1, 1, 4, 4, 0, 0, 0, 0], [14, 1, 1, 4, 4, 1, 1, 4, 4], [18, 1, 1, 4, 4, 0, 0, 0, 0], [22, 1, 1, 3, 3, 3, 1, 12, 12], [23, 1, 1, 3, 3, 1, 1, 3, 3], [26, 0, 0, 0, 0, 1, 1, 4, 4], [32, 1, 2, 1, 11, 1, 2, 1, 11], [35, 4, 2, 1, 37, 4, 2, 1, 37], [37, 3, 1, 12, 12, 3, 1, 12, 12], [38, 3, 1, 6, 6, 3, 1, 6, 6], [39, 3, 1, 2, 2, 1, 1, 3, 3], [41, 4, 1, 8, 8, 4, 1, 8, 8], [42, 4, 1, 15, 15, 4, 1, 15, 15], [43, 4, 1, 40, 40, 4, 2, 1, 99], [48, 4, 3, 1, 999, 4, 3, 1, 999], [49, 1, 1, 3, 3, 1, 1, 3, 3], [52, 5, 1, 8, 8, 5, 1, 8, 8], [55, 6, 3, 1, 255, 6, 3, 1, 255], [64, 5, 1, 8, 8, 5, 1, 8, 8], [70, 1, 1, 3, 3, 1, 1, 3, 3], [90, 1, 1, 42, 42, 0, 0, 0, 0], [102, 4, 2, 1, 28, 4, 2, 1, 28], [128, 5, 1, 8, 8, 5, 1, 8, 8]]))
noncomputable def groatref14_both.c : Con := ⟨75, groatref14_both.sg, groatref14_both.rs, groatref14_both.f⟩
theorem groatref14_both.con : ConOk Tryz.prog groatref14_both.c := walked (C := groatref14_both.C) rfl (by kernel_rfl) (by kernel_rfl) (by kernel_rfl) rfl trivial fun ⟨⟩ y h => ⟨0, (groatref14_both.eq 0 ).trans h⟩
/-! ### groatref14_Schema -/
@[reducible] def groatref14_Schema.sg : List Shp := [.v (.int .i64)]
@[reducible] def groatref14_Schema.rs : Rs := .one (.a (.pair (.int .i64) (.pair (.int .i64) (.sl (.pair (.int .i64) (.pair (.int .i64) (.pair (.int .i64) (.pair (.int .i64) (.int .i64)))))))))
@[reducible] noncomputable def groatref14_Schema.code : Code := Tryz.f34.body.getD .skip
noncomputable def groatref14_Schema.C : Ctx := ⟨tab, [groatref14_both.c], [], ⟨[(4, [0, 2, 3, 4, 5], 2)], []⟩⟩
noncomputable def groatref14_Schema.l0 (n : Nat) (v0 : Int) (v1 : List (List Int)) (v2 : Int) (v3 : Int) (v4 : Int) (v5 : Int) (v6 : Int) : Option ((Int × (Int × List ((Int × (Int × (Int × (Int × Int)))))))) := run groatref14_Schema.C (finOf groatref14_Schema.C Tryz.f34 groatref14_Schema.rs) n (todoAt 4 groatref14_Schema.code) ⟨[.int .i64 v0, .junk, .ptr 0 0, .ptr 1 0, .sl none (.sl (.int .i64)) v1, .int .i64 v2, .junk, .junk, .junk, .junk, .junk, .junk, .junk, .junk, .junk, .junk, .junk, .junk, .junk, .junk, .junk, .junk, .junk, .junk, .junk, .junk, .junk, .junk, .junk, .junk, .junk, .junk, .junk, .junk, .junk, .junk, .junk, .junk, .junk, .junk, .junk, .junk, .junk, .junk, .junk, .junk, .junk, .junk, .junk, .junk, .junk, .junk, .junk, .junk, .junk, .junk, .junk, .junk], [[.int .i64 v3, .int .i64 v4, .nilsl], [.int .i64 v5, .int .i64 v6, .nilsl]], []⟩
noncomputable def groatref14_Schema.l1 (n : Nat) (v0 : Int) (v1 : List (List Int)) (v2 : Int) (v3 : Int) (v4 : Int) (v5 : Int) (v6 : Int) (v7 : List ((Int × (Int × (Int × (Int × Int)))))) : Option ((Int × (Int × List ((Int × (Int × (Int × (Int × Int)))))))) := run groatref14_Schema.C (finOf groatref14_Schema.C Tryz.f34 groatref14_Schema.rs) n (todoAt 4 groatref14_Schema.code) ⟨[.int .i64 v0, .junk, .ptr 0 0, .ptr 1 0, .sl none (.sl (.int .i64)) v1, .int .i64 v2, .junk, .junk, .junk, .junk, .junk, .junk, .junk, .junk, .junk, .junk, .junk, .junk, .junk, .junk, .junk, .junk, .junk, .junk, .junk, .junk, .junk, .junk, .junk, .junk, .junk, .junk, .junk, .junk, .junk, .junk, .junk, .junk, .junk, .junk, .junk, .junk, .junk, .junk, .junk, .junk, .junk, .junk, .junk, .junk, .junk, .junk, .junk, .junk, .junk, .junk, .junk, .junk], [[.int .i64 v3, .int .i64 v4, .nilsl], [.int .i64 v5, .int .i64 v6, .sl (some 0) (.pair (.int .i64) (.pair (.int .i64) (.pair (.int .i64) (.pair (.int .i64) (.int .i64))))) v7]], [true]⟩
-- the loop at region 4
theorem groatref14_Schema.l0_eq (n : Nat) (v0 : Int) (v1 : List (List Int)) (v2 : Int) (v3 : Int) (v4 : Int) (v5 : Int) (v6 : Int) : groatref14_Schema.l0 (n + 1) v0 v1 v2 v3 v4 v5 v6 =
  (if v2 < (↑(List.length v1) : Int) then ((lget v1 v2).bind fun b1 =>
   ((lsub b1 (IntKind.wrap IntKind.i64 (1 + IntKind.wrap IntKind.i64 (4 * v0))) (IntKind.wrap IntKind.i64 (5 + IntKind.wrap IntKind.i64 (4 * v0)))).bind fun b2 =>
   ((lget b2 0).bind fun b3 =>
   (if b3 > 0 then ((lget v1 v2).bind fun b4 =>
    ((lget b4 0).bind fun b5 =>
    ((lget b2 0).bind fun b6 =>
    ((lget b2 1).bind fun b7 =>
    ((lget b2 2).bind fun b8 =>
    ((lget b2 3).bind fun b9 =>
    ((lcat 40 [] [(b5, b6, b7, b8, b9)]).bind fun b10 =>
    (groatref14_Schema.l1 n v0 v1 (IntKind.wrap IntKind.i64 (v2 + 1)) v3 v4 v5 v6 b10))))))))
   else (groatref14_Schema.l0 n v0 v1 (IntKind.wrap IntKind.i64 (v2 + 1)) v3 v4 v5 v6)))))
  else (some ((v5, v6, [])))) := by kernel_rfl
-- the loop at region 4
theorem groatref14_Schema.l1_eq (n : Nat) (v0 : Int) (v1 : List (List Int)) (v2 : Int) (v3 : Int) (v4 : Int) (v5 : Int) (v6 : Int) (v7 : List ((Int × (Int × (Int × (Int × Int)))))) : groatref14_Schema.l1 (n + 1) v0 v1 v2 v3 v4 v5 v6 v7 =
  (if v2 < (↑(List.length v1) : Int) then ((lget v1 v2).bind fun b11 =>
   ((lsub b11 (IntKind.wrap IntKind.i64 (1 + IntKind.wrap IntKind.i64 (4 * v0))) (IntKind.wrap IntKind.i64 (5 + IntKind.wrap IntKind.i64 (4 * v0)))).bind fun b12 =>
   ((lget b12 0).bind fun b13 =>
   (if b13 > 0 then ((lget v1 v2).bind fun b14 =>
    ((lget b14 0).bind fun b15 =>
    ((lget b12 0).bind fun b16 =>
    ((lget b12 1).bind fun b17 =>
    ((lget b12 2).bind fun b18 =>
    ((lget b12 3).bind fun b19 =>
    ((lcat 40 v7 [(b15, b16, b17, b18, b19)]).bind fun b20 =>
    (groatref14_Schema.l1 n v0 v1 (IntKind.wrap IntKind.i64 (v2 + 1)) v3 v4 v5 v6 b20))))))))
   else (groatref14_Schema.l1 n v0 v1 (IntKind.wrap IntKind.i64 (v2 + 1)) v3 v4 v5 v6 v7)))))
  else (some ((v5, v6, v7)))) := by kernel_rfl
theorem groatref14_Schema.eq (n : Nat) (a0 : Int) : call groatref14_Schema.C Tryz.f34 groatref14_Schema.code groatref14_Schema.sg groatref14_Schema.rs n a0 =
  ((groatref14_both.f ()).bind fun b0 =>
  (groatref14_Schema.l0 n a0 b0 0 0 0 (IntKind.wrap IntKind.i64 (a0 + 1)) a0)) := by kernel_rfl
/-- What a row of the table says of one version. -/
def pickS (a : Nat) : List Int → List S5
  | [n, c0, f0, i0, m0, c1, f1, i1, m1] => if a = 0 then (if c0 > 0 then [(n, c0, f0, i0, m0)] else []) else (if c1 > 0 then [(n, c1, f1, i1, m1)] else [])
  | _ => []
theorem pick_row (a : Nat) (ha : a = 0 ∨ a = 1) (r : List Int) (hr : r.length = 9) : ∃ n c f i m, lget r 0 = some n ∧ lsub r (IntKind.wrap .i64 (1 + IntKind.wrap .i64 (4 * (a : Int)))) (IntKind.wrap .i64 (5 + IntKind.wrap .i64 (4 * (a : Int)))) = some [c, f, i, m] ∧ pickS a r = if c > 0 then [(n, c, f, i, m)] else [] := by
  match r, hr with
  | [n, c0, f0, i0, m0, c1, f1, i1, m1], _ =>
    rcases ha with rfl | rfl
    · exact ⟨n, c0, f0, i0, m0, rfl, rfl, rfl⟩
    · exact ⟨n, c1, f1, i1, m1, rfl, rfl, rfl⟩
theorem groatref14_Schema_l1 (a : Nat) (ha : a = 0 ∨ a = 1) (t : List (List Int)) (ht : ∀ r ∈ t, r.length = 9) (hl : t.length ≤ 1000) (u v w x : Int) : ∀ (m : List (List Int)) (o : List S5) (k i : Nat), t.drop i = m → o.length ≤ i → m.length < k →
    groatref14_Schema.l1 k (a : Int) t (i : Int) u v w x o = some (w, x, o ++ m.flatMap (pickS a))
  | [], o, k, i, hd, ho, hk => by
    obtain ⟨k, rfl⟩ : ∃ m, k = m + 1 := ⟨k - 1, by omega⟩
    have := dropn hd
    rw [groatref14_Schema.l1_eq, if_neg (by omega)]; simp
  | r :: m, o, k, i, hd, ho, hk => by
    obtain ⟨k, rfl⟩ : ∃ m, k = m + 1 := ⟨k - 1, by omega⟩
    obtain ⟨h1, h2, h3, h4⟩ := dropc hd
    have hk' : m.length < k := by simp at hk; omega
    have hr : r.length = 9 := ht r (by have := List.drop_subset i t (a := r); rw [hd] at this; exact this (List.mem_cons_self ..))
    obtain ⟨n, c, f, p, q, e1, e2, e3⟩ := pick_row a ha r hr
    have g0 : lget [c, f, p, q] 0 = some c := rfl
    have g1 : lget [c, f, p, q] 1 = some f := rfl
    have g2 : lget [c, f, p, q] 2 = some p := rfl
    have g3 : lget [c, f, p, q] 3 = some q := rfl
    rw [groatref14_Schema.l1_eq, if_pos (by omega), h4, Option.bind_some, e2, Option.bind_some, g0, Option.bind_some, wrap_succ (by omega), List.flatMap_cons, e3]
    by_cases c0 : c > 0
    · rw [if_pos c0, if_pos c0, Option.bind_some, e1, Option.bind_some, Option.bind_some, g1, Option.bind_some, g2, Option.bind_some, g3, Option.bind_some, lcat_ok _ _ _ (by simp only [List.length_cons, List.length_nil]; omega), Option.bind_some, groatref14_Schema_l1 a ha t ht hl u v w x m _ k (i + 1) h2 (by rw [List.length_append]; simp only [List.length_cons, List.length_nil]; omega) hk', List.append_assoc]
    · rw [if_neg c0, if_neg c0, groatref14_Schema_l1 a ha t ht hl u v w x m o k (i + 1) h2 (by omega) hk']; rfl
theorem groatref14_Schema_l0 (a : Nat) (ha : a = 0 ∨ a = 1) (t : List (List Int)) (ht : ∀ r ∈ t, r.length = 9) (hl : t.length ≤ 1000) (u v w x : Int) : ∀ (m : List (List Int)) (k i : Nat), t.drop i = m → m.length < k →
    groatref14_Schema.l0 k (a : Int) t (i : Int) u v w x = some (w, x, m.flatMap (pickS a))
  | [], k, i, hd, hk => by
    obtain ⟨k, rfl⟩ : ∃ m, k = m + 1 := ⟨k - 1, by omega⟩
    have := dropn hd
    rw [groatref14_Schema.l0_eq, if_neg (by omega)]; rfl
  | r :: m, k, i, hd, hk => by
    obtain ⟨k, rfl⟩ : ∃ m, k = m + 1 := ⟨k - 1, by omega⟩
    obtain ⟨h1, h2, h3, h4⟩ := dropc hd
    have hk' : m.length < k := by simp at hk; omega
    have hr : r.length = 9 := ht r (by have := List.drop_subset i t (a := r); rw [hd] at this; exact this (List.mem_cons_self ..))
    obtain ⟨n, c, f, p, q, e1, e2, e3⟩ := pick_row a ha r hr
    have g0 : lget [c, f, p, q] 0 = some c := rfl
    have g1 : lget [c, f, p, q] 1 = some f := rfl
    have g2 : lget [c, f, p, q] 2 = some p := rfl
    have g3 : lget [c, f, p, q] 3 = some q := rfl
    rw [groatref14_Schema.l0_eq, if_pos (by omega), h4, Option.bind_some, e2, Option.bind_some, g0, Option.bind_some, wrap_succ (by omega), List.flatMap_cons, e3]
    by_cases c0 : c > 0
    · rw [if_pos c0, if_pos c0, Option.bind_some, e1, Option.bind_some, Option.bind_some, g1, Option.bind_some, g2, Option.bind_some, g3, Option.bind_some, lcat_ok _ _ _ (by simp), Option.bind_some]
      exact groatref14_Schema_l1 a ha t ht hl u v w x m [(n, c, f, p, q)] k (i + 1) h2 (by simp) hk'
    · rw [if_neg c0, if_neg c0, groatref14_Schema_l0 a ha t ht hl u v w x m k (i + 1) h2 hk']; rfl
noncomputable def tabS : List (List Int) := (groatref14_both.f ()).getD []
theorem tabS_eq : groatref14_both.f () = some tabS := rfl
theorem tabS_rows : ∀ r ∈ tabS, r.length = 9 := by
  have : tabS.all (fun r => decide (r.length = 9)) = true := by decide +kernel
  intro r hr
  have := List.all_eq_true.1 this r hr
  simpa using this
theorem tabS_length : tabS.length ≤ 1000 := by decide +kernel
noncomputable def groatref14_Schema.f (a : Int) : Option (Int × Int × List S5) := if a = 0 ∨ a = 1 then some (a + 1, a, tabS.flatMap (pickS a.toNat)) else none
theorem groatref14_Schema.run (a : Nat) (ha : a = 0 ∨ a = 1) : call groatref14_Schema.C Tryz.f34 groatref14_Schema.code groatref14_Schema.sg groatref14_Schema.rs (tabS.length + 1) (a : Int) = some ((a : Int) + 1, (a : Int), tabS.flatMap (pickS a)) := by
  rw [groatref14_Schema.eq, tabS_eq, Option.bind_some, wrap_id (by omega) (by omega)]
  exact groatref14_Schema_l0 a ha tabS tabS_rows tabS_length 0 0 _ _ tabS _ 0 rfl (by omega)
noncomputable def groatref14_Schema.c : Con := ⟨34, groatref14_Schema.sg, groatref14_Schema.rs, groatref14_Schema.f⟩
theorem groatref14_Schema.con : ConOk Tryz.prog groatref14_Schema.c := walked (C := groatref14_Schema.C) rfl (by kernel_rfl) (by kernel_rfl) (by kernel_rfl) rfl ⟨groatref14_both.con, trivial⟩ fun a y h => by
  have h : groatref14_Schema.f a = some y := h
  unfold groatref14_Schema.f at h
  split at h
  · rename_i hc
    rcases hc with rfl | rfl
    · exact ⟨_, (groatref14_Schema.run 0 (.inl rfl)).trans h⟩
    · exact ⟨_, (groatref14_Schema.run 1 (.inr rfl)).trans h⟩
  · cases h
end Go.Proofs.YtkaihbkfobiejaaGreatDoor.Xe
