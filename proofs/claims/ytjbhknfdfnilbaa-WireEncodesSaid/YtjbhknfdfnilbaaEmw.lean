/- What the program's functions that turn messages answer. -/
import Derived.Test.YtjbhknfdfnilbaaEms
namespace Go.Proofs.Ytjbhknfdfnilbaa.Xe
open Go Go.RowKit Go.Proofs.Ytjbhknfdfnilbaa.Sp
set_option linter.unusedVariables false
set_option linter.unusedSimpArgs false
set_option maxRecDepth 100000
/-! ### msg_Set -/
@[reducible] def msg_Set.sg : List Shp := [.a (.pair (.str) (.sl (.pair (.int .i64) (.str))))]
@[reducible] def msg_Set.rs : Rs := .one (.a (.pair (.int .u64) (.int .u64)))
@[reducible] noncomputable def msg_Set.code : Code := Try.f28.body.getD .skip
noncomputable def msg_Set.C : Ctx := ⟨tab, [fields_Set_With.c], [], ⟨[(3, [2, 3, 7, 8, 9], 3)], []⟩⟩
noncomputable def msg_Set.l0 (n : Nat) (v0 : List ((Int × ByteArray))) (v1 : Int) (v2 : Int) (v3 : ByteArray) (v4 : List ((Int × ByteArray))) (v5 : Int) (v6 : Int) (v7 : Int) (v8 : Int) : Option ((Int × Int)) := run msg_Set.C (finOf msg_Set.C Try.f28 msg_Set.rs) n (todoAt 3 msg_Set.code) ⟨[.junk, .junk, .ptr 1 0, .ptr 2 0, .junk, .junk, .junk, .sl none (.pair (.int .i64) (.str)) v0, .int .i64 v1, .int .i64 v2, .junk, .junk, .junk, .junk, .junk, .junk, .junk, .junk, .junk], [[.str v3, .sl none (.pair (.int .i64) (.str)) v4], [.int .u64 v5, .int .u64 v6], [.int .u64 v7, .int .u64 v8]], []⟩
-- the loop at region 3
theorem msg_Set.l0_eq (n : Nat) (v0 : List ((Int × ByteArray))) (v1 : Int) (v2 : Int) (v3 : ByteArray) (v4 : List ((Int × ByteArray))) (v5 : Int) (v6 : Int) (v7 : Int) (v8 : Int) : msg_Set.l0 (n + 1) v0 v1 v2 v3 v4 v5 v6 v7 v8 =
  (if v2 < v1 then ((lget v0 v2).bind fun b0 =>
   ((fields_Set_With.f ((v7, v8), Prod.fst b0)).bind fun b1 =>
   (msg_Set.l0 n v0 v1 (IntKind.wrap IntKind.i64 (v2 + 1)) v3 v4 v5 v6 (Prod.fst b1) (Prod.snd b1))))
  else (some ((v7, v8)))) := by kernel_rfl
theorem msg_Set.eq (n : Nat) (a0 : ByteArray) (a1 : List ((Int × ByteArray))) : call msg_Set.C Try.f28 msg_Set.code msg_Set.sg msg_Set.rs n (a0, a1) =
  (msg_Set.l0 n a1 ((↑(List.length a1) : Int)) 0 a0 a1 0 0 0 0) := by kernel_rfl
def msg_Set.f (x : ByteArray × List V) : Option (Int × Int) := if x.2.length ≤ 5864062014700 then some (((withAll (x.2.map Prod.fst) (0, 0)).1 : Int), ((withAll (x.2.map Prod.fst) (0, 0)).2 : Int)) else none
theorem msg_Set (t : ByteArray) (l : List V) (hl : l.length ≤ 5864062014700) : msg_Set.f (t, l) = some (((withAll (l.map Prod.fst) (0, 0)).1 : Int), ((withAll (l.map Prod.fst) (0, 0)).2 : Int)) := if_pos hl
theorem msg_Set_l (l : List V) (hl : l.length ≤ 5864062014700) (t : ByteArray) (a b : Int) : ∀ (m : List V) (k i h g : Nat), l.drop i = m → h < 18446744073709551616 → g < 18446744073709551616 → m.length < k →
    msg_Set.l0 k l (l.length : Int) (i : Int) t l a b (h : Int) (g : Int) = some (((withAll (m.map Prod.fst) (h, g)).1 : Int), ((withAll (m.map Prod.fst) (h, g)).2 : Int))
  | [], k, i, h, g, hd, h1, h2, hk => by
    obtain ⟨k, rfl⟩ : ∃ m, k = m + 1 := ⟨k - 1, by omega⟩
    have := dropn hd
    rw [msg_Set.l0_eq, if_neg (by omega)]; rfl
  | v :: m, k, i, h, g, hd, h1, h2, hk => by
    obtain ⟨k, rfl⟩ : ∃ m, k = m + 1 := ⟨k - 1, by omega⟩
    obtain ⟨e1, e2, e3, e4⟩ := dropc hd
    have hk' : m.length < k := by simp at hk; omega
    rw [msg_Set.l0_eq, if_pos (by omega), e4, Option.bind_some, fields_Set_With h g h1 h2, Option.bind_some, wrap_succ (by omega), List.map_cons, withAll]
    exact msg_Set_l l hl t a b m k (i + 1) _ _ e2 (Nat.or_lt_two_pow (n := 64) h1 (fb1_lt v.1)) (Nat.or_lt_two_pow (n := 64) h2 (fb2_lt v.1)) hk'
noncomputable def msg_Set.c : Con := ⟨28, msg_Set.sg, msg_Set.rs, msg_Set.f⟩
theorem msg_Set.con : ConOk Try.prog msg_Set.c := walked (C := msg_Set.C) rfl (by kernel_rfl) (by kernel_rfl) (by kernel_rfl) rfl ⟨fields_Set_With.con, trivial⟩ fun ⟨t, l⟩ y h => by
  have h : msg_Set.f (t, l) = some y := h
  unfold msg_Set.f at h
  split at h
  · rename_i hc
    exact ⟨l.length + 1, by rw [msg_Set.eq]; exact (msg_Set_l l hc t 0 0 l _ 0 0 0 rfl (by decide) (by decide) (by omega)).trans h⟩
  · cases h
/-! ### msg_With_1 -/
@[reducible] def msg_With_1.sg : List Shp := [.a (.pair (.int .i64) (.str)), .p (.int .i64)]
@[reducible] def msg_With_1.rs : Rs := .one (.v (.bool))
@[reducible] noncomputable def msg_With_1.code : Code := Try.f52.body.getD .skip
noncomputable def msg_With_1.C : Ctx := ⟨tab, [], [], ⟨[], []⟩⟩
theorem msg_With_1.eq (n : Nat) (a0 : Int) (a1 : ByteArray) (a2 : Int) : call msg_With_1.C Try.f52 msg_With_1.code msg_With_1.sg msg_With_1.rs n ((a0, a1), a2) =
  (some (decide (a0 > a2))) := by kernel_rfl
noncomputable def msg_With_1.f : El (sgTy msg_With_1.sg) → Option (El msg_With_1.rs.ty) := fun x => match x with
  | ((a0, a1), a2) =>
  (some (decide (a0 > a2)))
noncomputable def msg_With_1.c : Con := ⟨52, msg_With_1.sg, msg_With_1.rs, msg_With_1.f⟩
theorem msg_With_1.con : ConOk Try.prog msg_With_1.c := walked (C := msg_With_1.C) rfl (by kernel_rfl) (by kernel_rfl) (by kernel_rfl) rfl trivial fun ⟨⟨a0, a1⟩, a2⟩ y h => ⟨0, (msg_With_1.eq 0 a0 a1 a2).trans h⟩
/-! ### slices_IndexFunc -/
@[reducible] def slices_IndexFunc.sg : List Shp := [.v (.sl (.pair (.int .i64) (.str))), .fn 52 [.int .i64]]
@[reducible] def slices_IndexFunc.rs : Rs := .one (.v (.int .i64))
@[reducible] noncomputable def slices_IndexFunc.code : Code := Try.f51.body.getD .skip
noncomputable def slices_IndexFunc.C : Ctx := ⟨tab, [msg_With_1.c], [], ⟨[(2, [0, 1, 7, 8], 0)], []⟩⟩
noncomputable def slices_IndexFunc.l0 (n : Nat) (v0 : List ((Int × ByteArray))) (v1 : Int) (v2 : Int) (v3 : Int) : Option Int := run slices_IndexFunc.C (finOf slices_IndexFunc.C Try.f51 slices_IndexFunc.rs) n (todoAt 2 slices_IndexFunc.code) ⟨[.sl none (.pair (.int .i64) (.str)) v0, .fn 52 [.elp (.int .i64) v1 0], .junk, .junk, .junk, .junk, .junk, .int .i64 v2, .int .i64 v3, .junk, .junk, .junk, .junk, .junk, .junk, .junk, .junk, .junk, .junk], [], []⟩
-- the loop at region 2
theorem slices_IndexFunc.l0_eq (n : Nat) (v0 : List ((Int × ByteArray))) (v1 : Int) (v2 : Int) (v3 : Int) : slices_IndexFunc.l0 (n + 1) v0 v1 v2 v3 =
  (if v3 < v2 then ((lget v0 v3).bind fun b0 =>
   ((msg_With_1.f (b0, v1)).bind fun b1 =>
   (if b1 = true then (some v3)
   else (slices_IndexFunc.l0 n v0 v1 v2 (IntKind.wrap IntKind.i64 (v3 + 1))))))
  else (some (-1))) := by kernel_rfl
theorem slices_IndexFunc.eq (n : Nat) (a0 : List ((Int × ByteArray))) (a1 : Int) : call slices_IndexFunc.C Try.f51 slices_IndexFunc.code slices_IndexFunc.sg slices_IndexFunc.rs n (a0, a1) =
  (slices_IndexFunc.l0 n a0 a1 ((↑(List.length a0) : Int)) 0) := by kernel_rfl
/-- The place of the first whose number is greater, or -1. -/
def idxV (n : Int) (l : List V) : Int := if upTo n l < l.length then (upTo n l : Int) else -1
def slices_IndexFunc.f (x : List V × Int) : Option Int := if x.1.length ≤ 5864062014700 then some (idxV x.2 x.1) else none
theorem slices_IndexFunc (l : List V) (hl : l.length ≤ 5864062014700) (n : Int) : slices_IndexFunc.f (l, n) = some (idxV n l) := if_pos hl
theorem slices_IndexFunc_l (l : List V) (hl : l.length ≤ 5864062014700) (n : Int) : ∀ (m : List V) (k i : Nat), l.drop i = m → m.length < k → slices_IndexFunc.l0 k l n (l.length : Int) (i : Int) = some (if upTo n m < m.length then ((i + upTo n m : Nat) : Int) else -1)
  | [], k, i, hd, hk => by
    obtain ⟨k, rfl⟩ : ∃ m, k = m + 1 := ⟨k - 1, by omega⟩
    have := dropn hd
    rw [slices_IndexFunc.l0_eq, if_neg (by omega)]; rfl
  | v :: m, k, i, hd, hk => by
    obtain ⟨k, rfl⟩ : ∃ m, k = m + 1 := ⟨k - 1, by omega⟩
    obtain ⟨e1, e2, e3, e4⟩ := dropc hd
    have hk' : m.length < k := by simp at hk; omega
    have e5 : msg_With_1.f (v, n) = some (decide (v.1 > n)) := rfl
    rw [slices_IndexFunc.l0_eq, if_pos (by omega), e4, Option.bind_some, e5, Option.bind_some, wrap_succ (by omega), slices_IndexFunc_l l hl n m k (i + 1) e2 hk', upTo, List.length_cons]
    by_cases c : n < v.1
    · rw [if_pos (decide_eq_true c), if_pos c, if_pos (by omega)]; rfl
    · rw [if_neg (by simpa using c), if_neg c]
      by_cases c2 : upTo n m < m.length
      · rw [if_pos c2, if_pos (by omega), show i + 1 + upTo n m = i + (upTo n m + 1) by omega]
      · rw [if_neg c2, if_neg (by omega)]
noncomputable def slices_IndexFunc.c : Con := ⟨51, slices_IndexFunc.sg, slices_IndexFunc.rs, slices_IndexFunc.f⟩
theorem slices_IndexFunc.con : ConOk Try.prog slices_IndexFunc.c := walked (C := slices_IndexFunc.C) rfl (by kernel_rfl) (by kernel_rfl) (by kernel_rfl) rfl ⟨msg_With_1.con, trivial⟩ fun ⟨l, n⟩ y h => by
  have h : slices_IndexFunc.f (l, n) = some y := h
  unfold slices_IndexFunc.f at h
  split at h
  · rename_i hc
    refine ⟨l.length + 1, ?_⟩
    have hr := slices_IndexFunc_l l hc n l (l.length + 1) 0 rfl (by omega)
    rw [Nat.zero_add] at hr
    rw [slices_IndexFunc.eq]
    exact hr.trans h
  · cases h
/-- A value among others, by copies. -/
theorem put_run {α : Type} (l : List α) (i : Nat) (hi : i ≤ l.length) (x z : α) : ((lcopy (List.replicate (l.length + 1) z) 0 (l.length + 1) (l.take i)).bind fun b => (lset b i x).bind fun c => (lcopy c (i + 1) (l.length + 1 - (i + 1)) (l.drop i)).bind fun d => lpart d 0 (l.length + 1)) = some (l.take i ++ [x] ++ l.drop i) := by
  have t1 : (l.take i).length = i := by rw [List.length_take]; omega
  have d1 : (l.drop i).length = l.length - i := List.length_drop ..
  unfold lcopy lset lpart
  rw [if_pos (by rw [List.length_replicate]; omega), Option.bind_some, List.take_zero, List.nil_append, List.take_of_length_le (by omega), Nat.zero_add, t1, List.drop_replicate, Nat.min_eq_left (by omega), show l.length + 1 - i = (l.length - i) + 1 by omega, List.replicate_succ]
  rw [if_pos (by rw [List.length_append, List.length_cons, List.length_replicate]; omega), Option.bind_some, List.set_append_right _ _ (by omega), t1, Nat.sub_self, List.set_cons_zero]
  rw [if_pos (by rw [List.length_append, List.length_cons, List.length_replicate]; omega), Option.bind_some]
  have e1 : (l.take i ++ x :: List.replicate (l.length - i) z).take (i + 1) = l.take i ++ [x] := by
    rw [show l.take i ++ x :: List.replicate (l.length - i) z = (l.take i ++ [x]) ++ List.replicate (l.length - i) z by simp, List.take_left' (by rw [List.length_append, t1]; rfl)]
  have e2 : (l.take i ++ x :: List.replicate (l.length - i) z).drop (i + 1 + min (l.drop i).length (l.length + 1 - (i + 1))) = [] := List.drop_of_length_le (by rw [List.length_append, List.length_cons, List.length_replicate, t1, d1]; omega)
  rw [e1, e2, List.append_nil, List.take_of_length_le (l := l.drop i) (by omega)]
  rw [if_pos (by rw [List.length_append, List.length_append, t1, d1, List.length_singleton]; omega), List.drop_zero, List.take_of_length_le (by rw [List.length_append, List.length_append, t1, d1, List.length_singleton]; omega)]
/-! ### msg_With -/
@[reducible] def msg_With.sg : List Shp := [.a (.pair (.str) (.sl (.pair (.int .i64) (.str)))), .v (.int .i64), .v (.str)]
@[reducible] def msg_With.rs : Rs := .one (.a (.pair (.str) (.sl (.pair (.int .i64) (.str)))))
@[reducible] noncomputable def msg_With.code : Code := Try.f25.body.getD .skip
noncomputable def msg_With.C : Ctx := ⟨tab, [msg_Without.c, slices_IndexFunc.c], [], ⟨[], []⟩⟩
theorem msg_With.eq (n : Nat) (a0 : ByteArray) (a1 : List ((Int × ByteArray))) (a2 : Int) (a3 : ByteArray) : call msg_With.C Try.f25 msg_With.code msg_With.sg msg_With.rs n ((a0, a1), (a2, a3)) =
  ((msg_Without.f ((a0, a1), a2)).bind fun b0 =>
  ((slices_IndexFunc.f (Prod.snd b0, a2)).bind fun b1 =>
  (if b1 < 0 then (if 0 ≤ IntKind.wrap IntKind.i64 ((↑(List.length (Prod.snd b0)) : Int) + 1) ∧ 24 * IntKind.wrap IntKind.i64 ((↑(List.length (Prod.snd b0)) : Int) + 1) ≤ 281474976710656 then ((lsub (Prod.snd b0) 0 (↑(List.length (Prod.snd b0)) : Int)).bind fun b2 =>
    ((lcopy (List.replicate (Int.toNat (IntKind.wrap IntKind.i64 ((↑(List.length (Prod.snd b0)) : Int) + 1))) (0, ByteArray.mk #[])) 0 (Int.toNat (IntKind.wrap IntKind.i64 ((↑(List.length (Prod.snd b0)) : Int) + 1))) b2).bind fun b3 =>
    (if 0 ≤ (↑(List.length (Prod.snd b0)) : Int) ∧ (↑(List.length (Prod.snd b0)) : Int) < (↑(Int.toNat (IntKind.wrap IntKind.i64 ((↑(List.length (Prod.snd b0)) : Int) + 1))) : Int) then ((lset b3 (0 + Int.toNat (↑(List.length (Prod.snd b0)) : Int)) (a2, a3)).bind fun b4 =>
     (if 0 ≤ IntKind.wrap IntKind.i64 ((↑(List.length (Prod.snd b0)) : Int) + 1) ∧ IntKind.wrap IntKind.i64 ((↑(List.length (Prod.snd b0)) : Int) + 1) ≤ (↑(Int.toNat (IntKind.wrap IntKind.i64 ((↑(List.length (Prod.snd b0)) : Int) + 1))) : Int) ∧ (↑(Int.toNat (IntKind.wrap IntKind.i64 ((↑(List.length (Prod.snd b0)) : Int) + 1))) : Int) ≤ (↑(Int.toNat (IntKind.wrap IntKind.i64 ((↑(List.length (Prod.snd b0)) : Int) + 1))) : Int) then ((lsub (Prod.snd b0) (↑(List.length (Prod.snd b0)) : Int) (↑(List.length (Prod.snd b0)) : Int)).bind fun b5 =>
      ((lcopy b4 (0 + Int.toNat (IntKind.wrap IntKind.i64 ((↑(List.length (Prod.snd b0)) : Int) + 1))) (Int.toNat (↑(Int.toNat (IntKind.wrap IntKind.i64 ((↑(List.length (Prod.snd b0)) : Int) + 1))) : Int) - Int.toNat (IntKind.wrap IntKind.i64 ((↑(List.length (Prod.snd b0)) : Int) + 1))) b5).bind fun b6 =>
      ((lpart b6 0 (Int.toNat (IntKind.wrap IntKind.i64 ((↑(List.length (Prod.snd b0)) : Int) + 1)))).bind fun b7 =>
      (some ((a0, b7))))))
     else none))
    else none)))
   else none)
  else (if 0 ≤ IntKind.wrap IntKind.i64 ((↑(List.length (Prod.snd b0)) : Int) + 1) ∧ 24 * IntKind.wrap IntKind.i64 ((↑(List.length (Prod.snd b0)) : Int) + 1) ≤ 281474976710656 then ((lsub (Prod.snd b0) 0 b1).bind fun b8 =>
    ((lcopy (List.replicate (Int.toNat (IntKind.wrap IntKind.i64 ((↑(List.length (Prod.snd b0)) : Int) + 1))) (0, ByteArray.mk #[])) 0 (Int.toNat (IntKind.wrap IntKind.i64 ((↑(List.length (Prod.snd b0)) : Int) + 1))) b8).bind fun b9 =>
    (if 0 ≤ b1 ∧ b1 < (↑(Int.toNat (IntKind.wrap IntKind.i64 ((↑(List.length (Prod.snd b0)) : Int) + 1))) : Int) then ((lset b9 (0 + Int.toNat b1) (a2, a3)).bind fun b10 =>
     (if 0 ≤ IntKind.wrap IntKind.i64 (b1 + 1) ∧ IntKind.wrap IntKind.i64 (b1 + 1) ≤ (↑(Int.toNat (IntKind.wrap IntKind.i64 ((↑(List.length (Prod.snd b0)) : Int) + 1))) : Int) ∧ (↑(Int.toNat (IntKind.wrap IntKind.i64 ((↑(List.length (Prod.snd b0)) : Int) + 1))) : Int) ≤ (↑(Int.toNat (IntKind.wrap IntKind.i64 ((↑(List.length (Prod.snd b0)) : Int) + 1))) : Int) then ((lsub (Prod.snd b0) b1 (↑(List.length (Prod.snd b0)) : Int)).bind fun b11 =>
      ((lcopy b10 (0 + Int.toNat (IntKind.wrap IntKind.i64 (b1 + 1))) (Int.toNat (↑(Int.toNat (IntKind.wrap IntKind.i64 ((↑(List.length (Prod.snd b0)) : Int) + 1))) : Int) - Int.toNat (IntKind.wrap IntKind.i64 (b1 + 1))) b11).bind fun b12 =>
      ((lpart b12 0 (Int.toNat (IntKind.wrap IntKind.i64 ((↑(List.length (Prod.snd b0)) : Int) + 1)))).bind fun b13 =>
      (some ((a0, b13))))))
     else none))
    else none)))
   else none)))) := by kernel_rfl
noncomputable def msg_With.f : El (sgTy msg_With.sg) → Option (El msg_With.rs.ty) := fun x => match x with
  | ((a0, a1), (a2, a3)) =>
  ((msg_Without.f ((a0, a1), a2)).bind fun b0 =>
  ((slices_IndexFunc.f (Prod.snd b0, a2)).bind fun b1 =>
  (if b1 < 0 then (if 0 ≤ IntKind.wrap IntKind.i64 ((↑(List.length (Prod.snd b0)) : Int) + 1) ∧ 24 * IntKind.wrap IntKind.i64 ((↑(List.length (Prod.snd b0)) : Int) + 1) ≤ 281474976710656 then ((lsub (Prod.snd b0) 0 (↑(List.length (Prod.snd b0)) : Int)).bind fun b2 =>
    ((lcopy (List.replicate (Int.toNat (IntKind.wrap IntKind.i64 ((↑(List.length (Prod.snd b0)) : Int) + 1))) (0, ByteArray.mk #[])) 0 (Int.toNat (IntKind.wrap IntKind.i64 ((↑(List.length (Prod.snd b0)) : Int) + 1))) b2).bind fun b3 =>
    (if 0 ≤ (↑(List.length (Prod.snd b0)) : Int) ∧ (↑(List.length (Prod.snd b0)) : Int) < (↑(Int.toNat (IntKind.wrap IntKind.i64 ((↑(List.length (Prod.snd b0)) : Int) + 1))) : Int) then ((lset b3 (0 + Int.toNat (↑(List.length (Prod.snd b0)) : Int)) (a2, a3)).bind fun b4 =>
     (if 0 ≤ IntKind.wrap IntKind.i64 ((↑(List.length (Prod.snd b0)) : Int) + 1) ∧ IntKind.wrap IntKind.i64 ((↑(List.length (Prod.snd b0)) : Int) + 1) ≤ (↑(Int.toNat (IntKind.wrap IntKind.i64 ((↑(List.length (Prod.snd b0)) : Int) + 1))) : Int) ∧ (↑(Int.toNat (IntKind.wrap IntKind.i64 ((↑(List.length (Prod.snd b0)) : Int) + 1))) : Int) ≤ (↑(Int.toNat (IntKind.wrap IntKind.i64 ((↑(List.length (Prod.snd b0)) : Int) + 1))) : Int) then ((lsub (Prod.snd b0) (↑(List.length (Prod.snd b0)) : Int) (↑(List.length (Prod.snd b0)) : Int)).bind fun b5 =>
      ((lcopy b4 (0 + Int.toNat (IntKind.wrap IntKind.i64 ((↑(List.length (Prod.snd b0)) : Int) + 1))) (Int.toNat (↑(Int.toNat (IntKind.wrap IntKind.i64 ((↑(List.length (Prod.snd b0)) : Int) + 1))) : Int) - Int.toNat (IntKind.wrap IntKind.i64 ((↑(List.length (Prod.snd b0)) : Int) + 1))) b5).bind fun b6 =>
      ((lpart b6 0 (Int.toNat (IntKind.wrap IntKind.i64 ((↑(List.length (Prod.snd b0)) : Int) + 1)))).bind fun b7 =>
      (some ((a0, b7))))))
     else none))
    else none)))
   else none)
  else (if 0 ≤ IntKind.wrap IntKind.i64 ((↑(List.length (Prod.snd b0)) : Int) + 1) ∧ 24 * IntKind.wrap IntKind.i64 ((↑(List.length (Prod.snd b0)) : Int) + 1) ≤ 281474976710656 then ((lsub (Prod.snd b0) 0 b1).bind fun b8 =>
    ((lcopy (List.replicate (Int.toNat (IntKind.wrap IntKind.i64 ((↑(List.length (Prod.snd b0)) : Int) + 1))) (0, ByteArray.mk #[])) 0 (Int.toNat (IntKind.wrap IntKind.i64 ((↑(List.length (Prod.snd b0)) : Int) + 1))) b8).bind fun b9 =>
    (if 0 ≤ b1 ∧ b1 < (↑(Int.toNat (IntKind.wrap IntKind.i64 ((↑(List.length (Prod.snd b0)) : Int) + 1))) : Int) then ((lset b9 (0 + Int.toNat b1) (a2, a3)).bind fun b10 =>
     (if 0 ≤ IntKind.wrap IntKind.i64 (b1 + 1) ∧ IntKind.wrap IntKind.i64 (b1 + 1) ≤ (↑(Int.toNat (IntKind.wrap IntKind.i64 ((↑(List.length (Prod.snd b0)) : Int) + 1))) : Int) ∧ (↑(Int.toNat (IntKind.wrap IntKind.i64 ((↑(List.length (Prod.snd b0)) : Int) + 1))) : Int) ≤ (↑(Int.toNat (IntKind.wrap IntKind.i64 ((↑(List.length (Prod.snd b0)) : Int) + 1))) : Int) then ((lsub (Prod.snd b0) b1 (↑(List.length (Prod.snd b0)) : Int)).bind fun b11 =>
      ((lcopy b10 (0 + Int.toNat (IntKind.wrap IntKind.i64 (b1 + 1))) (Int.toNat (↑(Int.toNat (IntKind.wrap IntKind.i64 ((↑(List.length (Prod.snd b0)) : Int) + 1))) : Int) - Int.toNat (IntKind.wrap IntKind.i64 (b1 + 1))) b11).bind fun b12 =>
      ((lpart b12 0 (Int.toNat (IntKind.wrap IntKind.i64 ((↑(List.length (Prod.snd b0)) : Int) + 1)))).bind fun b13 =>
      (some ((a0, b13))))))
     else none))
    else none)))
   else none))))
noncomputable def msg_With.c : Con := ⟨25, msg_With.sg, msg_With.rs, msg_With.f⟩
theorem msg_With.con : ConOk Try.prog msg_With.c := walked (C := msg_With.C) rfl (by kernel_rfl) (by kernel_rfl) (by kernel_rfl) rfl ⟨msg_Without.con, slices_IndexFunc.con, trivial⟩ fun ⟨⟨a0, a1⟩, ⟨a2, a3⟩⟩ y h => ⟨0, (msg_With.eq 0 a0 a1 a2 a3).trans h⟩
theorem msg_With (t : ByteArray) (l : List V) (hl : l.length ≤ 5864062014700) (n : Int) (x : ByteArray) : msg_With.f ((t, l), n, x) = some (t, withV n x l) := by
  have hw := without_length n l
  have e0 := insV_cut n x (without n l)
  unfold withV
  simp only [msg_With.f]
  rw [msg_Without t l hl, Option.bind_some]
  dsimp only
  generalize without n l = w at *
  have hu := upTo_le n w
  rw [slices_IndexFunc w (by omega), Option.bind_some]
  have w1 : IntKind.wrap .i64 ((w.length : Int) + 1) = ((w.length + 1 : Nat) : Int) := by rw [wrap_id (by omega) (by omega)]; omega
  simp only [w1, Int.toNat_natCast, Nat.zero_add]
  unfold idxV
  by_cases c : upTo n w < w.length
  · have w2 : IntKind.wrap .i64 ((upTo n w : Int) + 1) = ((upTo n w + 1 : Nat) : Int) := by rw [wrap_id (by omega) (by omega)]; omega
    simp only [if_pos c, w2, Int.toNat_natCast]
    have l1 : lsub w 0 (upTo n w : Int) = some (w.take (upTo n w)) := by
      unfold lsub
      rw [if_pos (by omega)]; rfl
    have l2 : lsub w (upTo n w : Int) (w.length : Int) = some (w.drop (upTo n w)) := by
      unfold lsub
      rw [if_pos (by omega), Int.toNat_natCast, Int.toNat_natCast, List.take_length]
    have p := put_run w (upTo n w) hu (n, x) ((0 : Int), (ByteArray.mk #[]))
    rw [if_neg (by omega), if_pos (by omega), l1, Option.bind_some, l2]
    rw [← e0] at p
    obtain ⟨b1, q1, p⟩ := Option.bind_eq_some_iff.1 p
    obtain ⟨b2, q2, p⟩ := Option.bind_eq_some_iff.1 p
    obtain ⟨b3, q3, p⟩ := Option.bind_eq_some_iff.1 p
    rw [q1, Option.bind_some, if_pos (by omega), q2, Option.bind_some, if_pos (by omega), Option.bind_some, q3, Option.bind_some, p, Option.bind_some]
  · have hu2 : upTo n w = w.length := by omega
    simp only [if_neg c]
    have l1 : lsub w 0 (w.length : Int) = some (w.take (upTo n w)) := by
      unfold lsub
      rw [if_pos (by omega), hu2]; rfl
    have l2 : lsub w (w.length : Int) (w.length : Int) = some (w.drop (upTo n w)) := by
      unfold lsub
      rw [if_pos (by omega), hu2, Int.toNat_natCast, List.take_length]
    have p := put_run w (upTo n w) hu (n, x) ((0 : Int), (ByteArray.mk #[]))
    rw [if_pos (by decide), if_pos (by omega), l1, Option.bind_some, l2]
    rw [← e0] at p
    obtain ⟨b1, q1, p⟩ := Option.bind_eq_some_iff.1 p
    obtain ⟨b2, q2, p⟩ := Option.bind_eq_some_iff.1 p
    obtain ⟨b3, q3, p⟩ := Option.bind_eq_some_iff.1 p
    rw [hu2] at q2 q3
    rw [q1, Option.bind_some, if_pos (by omega), q2, hu2, Option.bind_some, if_pos (by omega), Option.bind_some, q3, Option.bind_some, p, Option.bind_some]
end Go.Proofs.Ytjbhknfdfnilbaa.Xe
