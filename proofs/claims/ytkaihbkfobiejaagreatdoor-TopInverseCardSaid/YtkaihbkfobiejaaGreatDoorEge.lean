import Derived.Test.YtkaihbkfobiejaaGreatDoorNgg
import Derived.Test.YtkaihbkfobiejaaGreatDoorEms
/- What the program's choice of a code answers, and the reference's. -/
namespace Go.Proofs.YtkaihbkfobiejaaGreatDoor.Xe
open Go Go.RowKit Go.Proofs.YtkaihbkfobiejaaGreatDoor.Sp
set_option linter.unusedVariables false
set_option linter.unusedSimpArgs false
set_option maxRecDepth 100000
/-! ### reject_Code -/
@[reducible] def reject_Code.sg : List Shp := [.a (.pair (.pair (.int .i64) (.pair (.int .i64) (.sl (.pair (.int .i64) (.pair (.int .i64) (.pair (.int .i64) (.pair (.int .i64) (.int .i64)))))))) (.pair (.pair (.sl (.pair (.str) (.str))) (.sl (.pair (.int .i64) (.pair (.int .i64) (.pair (.int .i64) (.pair (.str) (.sl (.pair (.str) (.str))))))))) (.pair (.sl (.int .i64)) (.sl (.pair (.int .i64) (.str)))))), .v (.int .i64)]
@[reducible] def reject_Code.rs : Rs := .one (.v (.str))
@[reducible] noncomputable def reject_Code.code : Code := Tryz.f118.body.getD .skip
noncomputable def reject_Code.C : Ctx := ⟨tab, [], [], ⟨[(2, [2, 10, 11, 12], 1), (5, [2, 6, 10, 11, 12, 17, 18, 19], 1)], []⟩⟩
noncomputable def reject_Code.l0 (n : Nat) (v0 : List Int) (v1 : Int) (v2 : Int) (v3 : Int) (v4 : Int) (v5 : List ((Int × (Int × (Int × (Int × Int)))))) (v6 : List ((ByteArray × ByteArray))) (v7 : List ((Int × (Int × (Int × (ByteArray × List ((ByteArray × ByteArray)))))))) (v8 : List Int) (v9 : List ((Int × ByteArray))) : Option ByteArray := run reject_Code.C (finOf reject_Code.C Tryz.f118 reject_Code.rs) n (todoAt 2 reject_Code.code) ⟨[.junk, .junk, .ptr 0 0, .junk, .junk, .junk, .junk, .junk, .junk, .junk, .sl (some 0) (.int .i64) v0, .int .i64 v1, .int .i64 v2, .junk, .junk, .junk, .junk, .junk, .junk, .junk, .junk, .junk, .junk, .junk, .junk, .junk, .junk, .junk, .junk, .junk, .junk], [[.int .i64 v3, .int .i64 v4, .sl none (.pair (.int .i64) (.pair (.int .i64) (.pair (.int .i64) (.pair (.int .i64) (.int .i64))))) v5, .sl none (.pair (.str) (.str)) v6, .sl none (.pair (.int .i64) (.pair (.int .i64) (.pair (.int .i64) (.pair (.str) (.sl (.pair (.str) (.str))))))) v7, .sl none (.int .i64) v8, .sl none (.pair (.int .i64) (.str)) v9]], [true]⟩
noncomputable def reject_Code.l1 (n : Nat) (v0 : Int) (v1 : List Int) (v2 : Int) (v3 : Int) (v4 : List ((Int × ByteArray))) (v5 : Int) (v6 : Int) (v7 : Int) (v8 : Int) (v9 : List ((Int × (Int × (Int × (Int × Int)))))) (v10 : List ((ByteArray × ByteArray))) (v11 : List ((Int × (Int × (Int × (ByteArray × List ((ByteArray × ByteArray)))))))) (v12 : List Int) (v13 : List ((Int × ByteArray))) : Option ByteArray := run reject_Code.C (finOf reject_Code.C Tryz.f118 reject_Code.rs) n (todoAt 5 reject_Code.code) ⟨[.junk, .junk, .ptr 0 0, .junk, .junk, .junk, .int .i64 v0, .junk, .junk, .junk, .sl (some 0) (.int .i64) v1, .int .i64 v2, .int .i64 v3, .junk, .junk, .junk, .junk, .sl none (.pair (.int .i64) (.str)) v4, .int .i64 v5, .int .i64 v6, .junk, .junk, .junk, .junk, .junk, .junk, .junk, .junk, .junk, .junk, .junk], [[.int .i64 v7, .int .i64 v8, .sl none (.pair (.int .i64) (.pair (.int .i64) (.pair (.int .i64) (.pair (.int .i64) (.int .i64))))) v9, .sl none (.pair (.str) (.str)) v10, .sl none (.pair (.int .i64) (.pair (.int .i64) (.pair (.int .i64) (.pair (.str) (.sl (.pair (.str) (.str))))))) v11, .sl none (.int .i64) v12, .sl none (.pair (.int .i64) (.str)) v13]], [true]⟩
-- the loop at region 2
theorem reject_Code.l0_eq (n : Nat) (v0 : List Int) (v1 : Int) (v2 : Int) (v3 : Int) (v4 : Int) (v5 : List ((Int × (Int × (Int × (Int × Int)))))) (v6 : List ((ByteArray × ByteArray))) (v7 : List ((Int × (Int × (Int × (ByteArray × List ((ByteArray × ByteArray)))))))) (v8 : List Int) (v9 : List ((Int × ByteArray))) : reject_Code.l0 (n + 1) v0 v1 v2 v3 v4 v5 v6 v7 v8 v9 =
  (if v2 < v1 then ((lget v0 v2).bind fun b0 =>
   (reject_Code.l1 n b0 v0 v1 v2 v9 ((↑(List.length v9) : Int)) 0 v3 v4 v5 v6 v7 v8 v9))
  else (some (ByteArray.mk #[]))) := by kernel_rfl
-- the loop at region 5
theorem reject_Code.l1_eq (n : Nat) (v0 : Int) (v1 : List Int) (v2 : Int) (v3 : Int) (v4 : List ((Int × ByteArray))) (v5 : Int) (v6 : Int) (v7 : Int) (v8 : Int) (v9 : List ((Int × (Int × (Int × (Int × Int)))))) (v10 : List ((ByteArray × ByteArray))) (v11 : List ((Int × (Int × (Int × (ByteArray × List ((ByteArray × ByteArray)))))))) (v12 : List Int) (v13 : List ((Int × ByteArray))) : reject_Code.l1 (n + 1) v0 v1 v2 v3 v4 v5 v6 v7 v8 v9 v10 v11 v12 v13 =
  (if v6 < v5 then ((lget v4 v6).bind fun b1 =>
   (if Prod.fst b1 = v0 then (some (Prod.snd b1))
   else (reject_Code.l1 n v0 v1 v2 v3 v4 v5 (IntKind.wrap IntKind.i64 (v6 + 1)) v7 v8 v9 v10 v11 v12 v13)))
  else (reject_Code.l0 n v1 v2 (IntKind.wrap IntKind.i64 (v3 + 1)) v7 v8 v9 v10 v11 v12 v13)) := by kernel_rfl
theorem reject_Code.eq (n : Nat) (a0 : Int) (a1 : Int) (a2 : List ((Int × (Int × (Int × (Int × Int)))))) (a3 : List ((ByteArray × ByteArray))) (a4 : List ((Int × (Int × (Int × (ByteArray × List ((ByteArray × ByteArray)))))))) (a5 : List Int) (a6 : List ((Int × ByteArray))) (a7 : Int) : call reject_Code.C Tryz.f118 reject_Code.code reject_Code.sg reject_Code.rs n (((a0, (a1, a2)), ((a3, a4), (a5, a6))), a7) =
  (reject_Code.l0 n ([a7, 0]) ((↑(List.length [a7, 0]) : Int)) 0 a0 a1 a2 a3 a4 a5 a6) := by kernel_rfl
def reject_Code.f (x : RJ × Int) : Option ByteArray := if x.1.2.2.2.length ≤ 5864062014700 then some (codeV x.2 x.1.2.2.2) else none
theorem reject_Code (s : Int × Int × List S5) (c : RC) (e : List Int) (l : List V) (hl : l.length ≤ 5864062014700) (n : Int) : reject_Code.f ((s, c, e, l), n) = some (codeV n l) := if_pos hl
theorem reject_Code_l1 (l : List V) (hl : l.length ≤ 5864062014700) (n : Int) (w : List Int) (a j q1 q2 : Int) (s : List S5) (c1 : List (ByteArray × ByteArray)) (c2 : List (Int × Int × Int × ByteArray × List (ByteArray × ByteArray))) (e : List Int) : ∀ (m : List V) (k i : Nat), l.drop i = m →
    reject_Code.l1 (k + m.length + 1) n w a j l (l.length : Int) (i : Int) q1 q2 s c1 c2 e l = if (getV n m).2 = true then some (getV n m).1 else reject_Code.l0 k w a (IntKind.wrap .i64 (j + 1)) q1 q2 s c1 c2 e l
  | [], k, i, hd => by
    have := dropn hd
    rw [reject_Code.l1_eq, if_neg (by omega)]; rfl
  | v :: m, k, i, hd => by
    obtain ⟨h1, h2, h3, h4⟩ := dropc hd
    rw [reject_Code.l1_eq, if_pos (by omega), h4, Option.bind_some, wrap_succ (by omega), getV]
    by_cases c : v.1 = n
    · rw [if_pos c, if_pos c]; rfl
    · rw [if_neg c, if_neg c, List.length_cons, ← Nat.add_assoc k m.length 1]
      exact reject_Code_l1 l hl n w a j q1 q2 s c1 c2 e m k (i + 1) h2
theorem getV_no {n : Int} {l : List V} (h : ¬ (getV n l).2 = true) : (getV n l).1 = sb [] := by
  rcases findV_get n l 0 with ⟨-, h2⟩ | ⟨k, -, h2, h3⟩
  · rw [h2]
  · rw [h3] at h; exact absurd rfl h
theorem reject_Code.run (q1 q2 : Int) (s : List S5) (c1 : List (ByteArray × ByteArray)) (c2 : List (Int × Int × Int × ByteArray × List (ByteArray × ByteArray))) (e : List Int) (l : List V) (hl : l.length ≤ 5864062014700) (n : Int) :
    call reject_Code.C Tryz.f118 reject_Code.code reject_Code.sg reject_Code.rs ((1 + l.length + 1 + 1) + l.length + 1 + 1) (((q1, q2, s), (c1, c2), e, l), n) = some (codeV n l) := by
  have r1 := reject_Code_l1 l hl n [n, 0] 2 0 q1 q2 s c1 c2 e l (1 + l.length + 1 + 1) 0 rfl
  have r2 := reject_Code_l1 l hl 0 [n, 0] 2 1 q1 q2 s c1 c2 e l 1 0 rfl
  have z1 : IntKind.wrap .i64 ((0 : Int) + 1) = 1 := wrap_nat (n := 1) (by decide)
  have z2 : IntKind.wrap .i64 ((1 : Int) + 1) = 2 := wrap_nat (n := 2) (by decide)
  have g0 : lget [n, 0] 0 = some n := rfl
  have g1 : lget [n, 0] 1 = some 0 := rfl
  have l2 : ((List.length [n, 0] : Nat) : Int) = 2 := rfl
  have e3 : reject_Code.l0 1 [n, 0] 2 2 q1 q2 s c1 c2 e l = some (sb []) := by rw [reject_Code.l0_eq, if_neg (by decide)]; rfl
  have e2 : reject_Code.l0 (1 + l.length + 1 + 1) [n, 0] 2 1 q1 q2 s c1 c2 e l = some (getV 0 l).1 := by
    rw [reject_Code.l0_eq, if_pos (by decide), g1, Option.bind_some]
    refine r2.trans ?_
    by_cases c : (getV 0 l).2 = true
    · rw [if_pos c]
    · rw [if_neg c, z2, e3, getV_no c]
  rw [reject_Code.eq, l2, reject_Code.l0_eq, if_pos (by decide), g0, Option.bind_some]
  refine r1.trans ?_
  unfold codeV
  by_cases c : (getV n l).2 = true
  · rw [if_pos c, if_pos c]
  · rw [if_neg c, if_neg c, z1, e2]
noncomputable def reject_Code.c : Con := ⟨118, reject_Code.sg, reject_Code.rs, reject_Code.f⟩
theorem reject_Code.con : ConOk Tryz.prog reject_Code.c := walked (C := reject_Code.C) rfl (by kernel_rfl) (by kernel_rfl) (by kernel_rfl) rfl trivial fun ⟨⟨⟨q1, q2, s⟩, ⟨c1, c2⟩, e, l⟩, n⟩ y h => by
  have h : reject_Code.f (((q1, q2, s), (c1, c2), e, l), n) = some y := h
  unfold reject_Code.f at h
  split at h
  · rename_i hl
    exact ⟨_, (reject_Code.run q1 q2 s c1 c2 e l hl n).trans h⟩
  · cases h
end Go.Proofs.YtkaihbkfobiejaaGreatDoor.Xe

/- What the program's functions that turn messages answer. -/
namespace Go.Proofs.YtkaihbkfobiejaaGreatDoor.Xe
open Go Go.RowKit Go.Proofs.YtkaihbkfobiejaaGreatDoor.Sp
set_option linter.unusedVariables false
set_option linter.unusedSimpArgs false
set_option maxRecDepth 100000
/-! ### msg_Set -/
@[reducible] def msg_Set.sg : List Shp := [.a (.pair (.str) (.sl (.pair (.int .i64) (.str))))]
@[reducible] def msg_Set.rs : Rs := .one (.a (.pair (.int .u64) (.int .u64)))
@[reducible] noncomputable def msg_Set.code : Code := Tryz.f21.body.getD .skip
noncomputable def msg_Set.C : Ctx := ⟨tab, [fields_Set_With.c], [], ⟨[(3, [2, 3, 7, 8, 9], 3)], []⟩⟩
noncomputable def msg_Set.l0 (n : Nat) (v0 : List ((Int × ByteArray))) (v1 : Int) (v2 : Int) (v3 : ByteArray) (v4 : List ((Int × ByteArray))) (v5 : Int) (v6 : Int) (v7 : Int) (v8 : Int) : Option ((Int × Int)) := run msg_Set.C (finOf msg_Set.C Tryz.f21 msg_Set.rs) n (todoAt 3 msg_Set.code) ⟨[.junk, .junk, .ptr 1 0, .ptr 2 0, .junk, .junk, .junk, .sl none (.pair (.int .i64) (.str)) v0, .int .i64 v1, .int .i64 v2, .junk, .junk, .junk, .junk, .junk, .junk, .junk, .junk, .junk], [[.str v3, .sl none (.pair (.int .i64) (.str)) v4], [.int .u64 v5, .int .u64 v6], [.int .u64 v7, .int .u64 v8]], []⟩
-- the loop at region 3
theorem msg_Set.l0_eq (n : Nat) (v0 : List ((Int × ByteArray))) (v1 : Int) (v2 : Int) (v3 : ByteArray) (v4 : List ((Int × ByteArray))) (v5 : Int) (v6 : Int) (v7 : Int) (v8 : Int) : msg_Set.l0 (n + 1) v0 v1 v2 v3 v4 v5 v6 v7 v8 =
  (if v2 < v1 then ((lget v0 v2).bind fun b0 =>
   ((fields_Set_With.f ((v7, v8), Prod.fst b0)).bind fun b1 =>
   (msg_Set.l0 n v0 v1 (IntKind.wrap IntKind.i64 (v2 + 1)) v3 v4 v5 v6 (Prod.fst b1) (Prod.snd b1))))
  else (some ((v7, v8)))) := by kernel_rfl
theorem msg_Set.eq (n : Nat) (a0 : ByteArray) (a1 : List ((Int × ByteArray))) : call msg_Set.C Tryz.f21 msg_Set.code msg_Set.sg msg_Set.rs n (a0, a1) =
  (msg_Set.l0 n a1 ((↑(List.length a1) : Int)) 0 a0 a1 0 0 0 0) := by kernel_rfl
def msg_Set.f (x : ByteArray × List V) : Option (Int × Int) := if x.2.length ≤ 5864062014700 then some (((withAll (x.2.map Prod.fst) (0, 0)).1 : Int), ((withAll (x.2.map Prod.fst) (0, 0)).2 : Int)) else none
theorem msg_Set (t : ByteArray) (l : List V) (hl : l.length ≤ 5864062014700) : msg_Set.f (t, l) = some (((withAll (l.map Prod.fst) (0, 0)).1 : Int), ((withAll (l.map Prod.fst) (0, 0)).2 : Int)) := if_pos hl
theorem msg_Set_l (l : List V) (hl : l.length ≤ 5864062014700) (t : ByteArray) (a b : Int) : ∀ (m : List V) (k i h g : Nat), l.drop i = m → h < 18446744073709551616 → g < 18446744073709551616 → m.length < k →
    msg_Set.l0 k l (l.length : Int) (i : Int) t l a b (h : Int) (g : Int) = some (((withAll (m.map Prod.fst) (h, g)).1 : Int), ((withAll (m.map Prod.fst) (h, g)).2 : Int))
  | [], k, i, h, g, hd, h1, h2, hk => by
    obtain ⟨k, rfl⟩ : ∃ m, k = m + 1 := ⟨k - 1, by omega⟩
    have := dropn hd
    rw [msg_Set.l0_eq, if_neg (by omega)]; rfl
  | v :: m, k, i, h, g, hd, h1, h2, hk => by
    obtain ⟨k, rfl⟩ : ∃ m, k = m + 1 := ⟨k - 1, by omega⟩
    obtain ⟨e1, e2, e3, e4⟩ := dropc hd
    have hk' : m.length < k := by simp at hk; omega
    rw [msg_Set.l0_eq, if_pos (by omega), e4, Option.bind_some, fields_Set_With h g h1 h2, Option.bind_some, wrap_succ (by omega), List.map_cons, withAll]
    exact msg_Set_l l hl t a b m k (i + 1) _ _ e2 (Nat.or_lt_two_pow (n := 64) h1 (fb1_lt v.1)) (Nat.or_lt_two_pow (n := 64) h2 (fb2_lt v.1)) hk'
noncomputable def msg_Set.c : Con := ⟨21, msg_Set.sg, msg_Set.rs, msg_Set.f⟩
theorem msg_Set.con : ConOk Tryz.prog msg_Set.c := walked (C := msg_Set.C) rfl (by kernel_rfl) (by kernel_rfl) (by kernel_rfl) rfl ⟨fields_Set_With.con, trivial⟩ fun ⟨t, l⟩ y h => by
  have h : msg_Set.f (t, l) = some y := h
  unfold msg_Set.f at h
  split at h
  · rename_i hc
    exact ⟨l.length + 1, by rw [msg_Set.eq]; exact (msg_Set_l l hc t 0 0 l _ 0 0 0 rfl (by decide) (by decide) (by omega)).trans h⟩
  · cases h
/-! ### msg_With_1 -/
@[reducible] def msg_With_1.sg : List Shp := [.a (.pair (.int .i64) (.str)), .p (.int .i64)]
@[reducible] def msg_With_1.rs : Rs := .one (.v (.bool))
@[reducible] noncomputable def msg_With_1.code : Code := Tryz.f108.body.getD .skip
noncomputable def msg_With_1.C : Ctx := ⟨tab, [], [], ⟨[], []⟩⟩
theorem msg_With_1.eq (n : Nat) (a0 : Int) (a1 : ByteArray) (a2 : Int) : call msg_With_1.C Tryz.f108 msg_With_1.code msg_With_1.sg msg_With_1.rs n ((a0, a1), a2) =
  (some (decide (a0 > a2))) := by kernel_rfl
noncomputable def msg_With_1.f : El (sgTy msg_With_1.sg) → Option (El msg_With_1.rs.ty) := fun x => match x with
  | ((a0, a1), a2) =>
  (some (decide (a0 > a2)))
noncomputable def msg_With_1.c : Con := ⟨108, msg_With_1.sg, msg_With_1.rs, msg_With_1.f⟩
theorem msg_With_1.con : ConOk Tryz.prog msg_With_1.c := walked (C := msg_With_1.C) rfl (by kernel_rfl) (by kernel_rfl) (by kernel_rfl) rfl trivial fun ⟨⟨a0, a1⟩, a2⟩ y h => ⟨0, (msg_With_1.eq 0 a0 a1 a2).trans h⟩
/-! ### slices_IndexFunc -/
@[reducible] def slices_IndexFunc.sg : List Shp := [.v (.sl (.pair (.int .i64) (.str))), .fn 108 [.int .i64]]
@[reducible] def slices_IndexFunc.rs : Rs := .one (.v (.int .i64))
@[reducible] noncomputable def slices_IndexFunc.code : Code := Tryz.f107.body.getD .skip
noncomputable def slices_IndexFunc.C : Ctx := ⟨tab, [msg_With_1.c], [], ⟨[(2, [0, 1, 7, 8], 0)], []⟩⟩
noncomputable def slices_IndexFunc.l0 (n : Nat) (v0 : List ((Int × ByteArray))) (v1 : Int) (v2 : Int) (v3 : Int) : Option Int := run slices_IndexFunc.C (finOf slices_IndexFunc.C Tryz.f107 slices_IndexFunc.rs) n (todoAt 2 slices_IndexFunc.code) ⟨[.sl none (.pair (.int .i64) (.str)) v0, .fn 108 [.elp (.int .i64) v1 0], .junk, .junk, .junk, .junk, .junk, .int .i64 v2, .int .i64 v3, .junk, .junk, .junk, .junk, .junk, .junk, .junk, .junk, .junk, .junk], [], []⟩
-- the loop at region 2
theorem slices_IndexFunc.l0_eq (n : Nat) (v0 : List ((Int × ByteArray))) (v1 : Int) (v2 : Int) (v3 : Int) : slices_IndexFunc.l0 (n + 1) v0 v1 v2 v3 =
  (if v3 < v2 then ((lget v0 v3).bind fun b0 =>
   ((msg_With_1.f (b0, v1)).bind fun b1 =>
   (if b1 = true then (some v3)
   else (slices_IndexFunc.l0 n v0 v1 v2 (IntKind.wrap IntKind.i64 (v3 + 1))))))
  else (some (-1))) := by kernel_rfl
theorem slices_IndexFunc.eq (n : Nat) (a0 : List ((Int × ByteArray))) (a1 : Int) : call slices_IndexFunc.C Tryz.f107 slices_IndexFunc.code slices_IndexFunc.sg slices_IndexFunc.rs n (a0, a1) =
  (slices_IndexFunc.l0 n a0 a1 ((↑(List.length a0) : Int)) 0) := by kernel_rfl
/-- The place of the first whose number is greater, or -1. -/
def idxV (n : Int) (l : List V) : Int := if upTo n l < l.length then (upTo n l : Int) else -1
def slices_IndexFunc.f (x : List V × Int) : Option Int := if x.1.length ≤ 5864062014700 then some (idxV x.2 x.1) else none
theorem slices_IndexFunc (l : List V) (hl : l.length ≤ 5864062014700) (n : Int) : slices_IndexFunc.f (l, n) = some (idxV n l) := if_pos hl
theorem slices_IndexFunc_l (l : List V) (hl : l.length ≤ 5864062014700) (n : Int) : ∀ (m : List V) (k i : Nat), l.drop i = m → m.length < k → slices_IndexFunc.l0 k l n (l.length : Int) (i : Int) = some (if upTo n m < m.length then ((i + upTo n m : Nat) : Int) else -1)
  | [], k, i, hd, hk => by
    obtain ⟨k, rfl⟩ : ∃ m, k = m + 1 := ⟨k - 1, by omega⟩
    have := dropn hd
    rw [slices_IndexFunc.l0_eq, if_neg (by omega)]; rfl
  | v :: m, k, i, hd, hk => by
    obtain ⟨k, rfl⟩ : ∃ m, k = m + 1 := ⟨k - 1, by omega⟩
    obtain ⟨e1, e2, e3, e4⟩ := dropc hd
    have hk' : m.length < k := by simp at hk; omega
    have e5 : msg_With_1.f (v, n) = some (decide (v.1 > n)) := rfl
    rw [slices_IndexFunc.l0_eq, if_pos (by omega), e4, Option.bind_some, e5, Option.bind_some, wrap_succ (by omega), slices_IndexFunc_l l hl n m k (i + 1) e2 hk', upTo, List.length_cons]
    by_cases c : n < v.1
    · rw [if_pos (decide_eq_true c), if_pos c, if_pos (by omega)]; rfl
    · rw [if_neg (by simpa using c), if_neg c]
      by_cases c2 : upTo n m < m.length
      · rw [if_pos c2, if_pos (by omega), show i + 1 + upTo n m = i + (upTo n m + 1) by omega]
      · rw [if_neg c2, if_neg (by omega)]
noncomputable def slices_IndexFunc.c : Con := ⟨107, slices_IndexFunc.sg, slices_IndexFunc.rs, slices_IndexFunc.f⟩
theorem slices_IndexFunc.con : ConOk Tryz.prog slices_IndexFunc.c := walked (C := slices_IndexFunc.C) rfl (by kernel_rfl) (by kernel_rfl) (by kernel_rfl) rfl ⟨msg_With_1.con, trivial⟩ fun ⟨l, n⟩ y h => by
  have h : slices_IndexFunc.f (l, n) = some y := h
  unfold slices_IndexFunc.f at h
  split at h
  · rename_i hc
    refine ⟨l.length + 1, ?_⟩
    have hr := slices_IndexFunc_l l hc n l (l.length + 1) 0 rfl (by omega)
    rw [Nat.zero_add] at hr
    rw [slices_IndexFunc.eq]
    exact hr.trans h
  · cases h
/-- A value among others, by copies. -/
theorem put_run {α : Type} (l : List α) (i : Nat) (hi : i ≤ l.length) (x z : α) : ((lcopy (List.replicate (l.length + 1) z) 0 (l.length + 1) (l.take i)).bind fun b => (lset b i x).bind fun c => (lcopy c (i + 1) (l.length + 1 - (i + 1)) (l.drop i)).bind fun d => lpart d 0 (l.length + 1)) = some (l.take i ++ [x] ++ l.drop i) := by
  have t1 : (l.take i).length = i := by rw [List.length_take]; omega
  have d1 : (l.drop i).length = l.length - i := List.length_drop ..
  unfold lcopy lset lpart
  rw [if_pos (by rw [List.length_replicate]; omega), Option.bind_some, List.take_zero, List.nil_append, List.take_of_length_le (by omega), Nat.zero_add, t1, List.drop_replicate, Nat.min_eq_left (by omega), show l.length + 1 - i = (l.length - i) + 1 by omega, List.replicate_succ]
  rw [if_pos (by rw [List.length_append, List.length_cons, List.length_replicate]; omega), Option.bind_some, List.set_append_right _ _ (by omega), t1, Nat.sub_self, List.set_cons_zero]
  rw [if_pos (by rw [List.length_append, List.length_cons, List.length_replicate]; omega), Option.bind_some]
  have e1 : (l.take i ++ x :: List.replicate (l.length - i) z).take (i + 1) = l.take i ++ [x] := by
    rw [show l.take i ++ x :: List.replicate (l.length - i) z = (l.take i ++ [x]) ++ List.replicate (l.length - i) z by simp, List.take_left' (by rw [List.length_append, t1]; rfl)]
  have e2 : (l.take i ++ x :: List.replicate (l.length - i) z).drop (i + 1 + min (l.drop i).length (l.length + 1 - (i + 1))) = [] := List.drop_of_length_le (by rw [List.length_append, List.length_cons, List.length_replicate, t1, d1]; omega)
  rw [e1, e2, List.append_nil, List.take_of_length_le (l := l.drop i) (by omega)]
  rw [if_pos (by rw [List.length_append, List.length_append, t1, d1, List.length_singleton]; omega), List.drop_zero, List.take_of_length_le (by rw [List.length_append, List.length_append, t1, d1, List.length_singleton]; omega)]
/-! ### msg_With -/
@[reducible] def msg_With.sg : List Shp := [.a (.pair (.str) (.sl (.pair (.int .i64) (.str)))), .v (.int .i64), .v (.str)]
@[reducible] def msg_With.rs : Rs := .one (.a (.pair (.str) (.sl (.pair (.int .i64) (.str)))))
@[reducible] noncomputable def msg_With.code : Code := Tryz.f62.body.getD .skip
noncomputable def msg_With.C : Ctx := ⟨tab, [msg_Without.c, slices_IndexFunc.c], [], ⟨[], []⟩⟩
theorem msg_With.eq (n : Nat) (a0 : ByteArray) (a1 : List ((Int × ByteArray))) (a2 : Int) (a3 : ByteArray) : call msg_With.C Tryz.f62 msg_With.code msg_With.sg msg_With.rs n ((a0, a1), (a2, a3)) =
  ((msg_Without.f ((a0, a1), a2)).bind fun b0 =>
  ((slices_IndexFunc.f (Prod.snd b0, a2)).bind fun b1 =>
  (if b1 < 0 then (if 0 ≤ IntKind.wrap IntKind.i64 ((↑(List.length (Prod.snd b0)) : Int) + 1) ∧ 24 * IntKind.wrap IntKind.i64 ((↑(List.length (Prod.snd b0)) : Int) + 1) ≤ 281474976710656 then ((lsub (Prod.snd b0) 0 (↑(List.length (Prod.snd b0)) : Int)).bind fun b2 =>
    ((lcopy (List.replicate (Int.toNat (IntKind.wrap IntKind.i64 ((↑(List.length (Prod.snd b0)) : Int) + 1))) (0, ByteArray.mk #[])) 0 (Int.toNat (IntKind.wrap IntKind.i64 ((↑(List.length (Prod.snd b0)) : Int) + 1))) b2).bind fun b3 =>
    (if 0 ≤ (↑(List.length (Prod.snd b0)) : Int) ∧ (↑(List.length (Prod.snd b0)) : Int) < (↑(Int.toNat (IntKind.wrap IntKind.i64 ((↑(List.length (Prod.snd b0)) : Int) + 1))) : Int) then ((lset b3 (0 + Int.toNat (↑(List.length (Prod.snd b0)) : Int)) (a2, a3)).bind fun b4 =>
     (if 0 ≤ IntKind.wrap IntKind.i64 ((↑(List.length (Prod.snd b0)) : Int) + 1) ∧ IntKind.wrap IntKind.i64 ((↑(List.length (Prod.snd b0)) : Int) + 1) ≤ (↑(Int.toNat (IntKind.wrap IntKind.i64 ((↑(List.length (Prod.snd b0)) : Int) + 1))) : Int) ∧ (↑(Int.toNat (IntKind.wrap IntKind.i64 ((↑(List.length (Prod.snd b0)) : Int) + 1))) : Int) ≤ (↑(Int.toNat (IntKind.wrap IntKind.i64 ((↑(List.length (Prod.snd b0)) : Int) + 1))) : Int) then ((lsub (Prod.snd b0) (↑(List.length (Prod.snd b0)) : Int) (↑(List.length (Prod.snd b0)) : Int)).bind fun b5 =>
      ((lcopy b4 (0 + Int.toNat (IntKind.wrap IntKind.i64 ((↑(List.length (Prod.snd b0)) : Int) + 1))) (Int.toNat (↑(Int.toNat (IntKind.wrap IntKind.i64 ((↑(List.length (Prod.snd b0)) : Int) + 1))) : Int) - Int.toNat (IntKind.wrap IntKind.i64 ((↑(List.length (Prod.snd b0)) : Int) + 1))) b5).bind fun b6 =>
      ((lpart b6 0 (Int.toNat (IntKind.wrap IntKind.i64 ((↑(List.length (Prod.snd b0)) : Int) + 1)))).bind fun b7 =>
      (some ((a0, b7))))))
     else none))
    else none)))
   else none)
  else (if 0 ≤ IntKind.wrap IntKind.i64 ((↑(List.length (Prod.snd b0)) : Int) + 1) ∧ 24 * IntKind.wrap IntKind.i64 ((↑(List.length (Prod.snd b0)) : Int) + 1) ≤ 281474976710656 then ((lsub (Prod.snd b0) 0 b1).bind fun b8 =>
    ((lcopy (List.replicate (Int.toNat (IntKind.wrap IntKind.i64 ((↑(List.length (Prod.snd b0)) : Int) + 1))) (0, ByteArray.mk #[])) 0 (Int.toNat (IntKind.wrap IntKind.i64 ((↑(List.length (Prod.snd b0)) : Int) + 1))) b8).bind fun b9 =>
    (if 0 ≤ b1 ∧ b1 < (↑(Int.toNat (IntKind.wrap IntKind.i64 ((↑(List.length (Prod.snd b0)) : Int) + 1))) : Int) then ((lset b9 (0 + Int.toNat b1) (a2, a3)).bind fun b10 =>
     (if 0 ≤ IntKind.wrap IntKind.i64 (b1 + 1) ∧ IntKind.wrap IntKind.i64 (b1 + 1) ≤ (↑(Int.toNat (IntKind.wrap IntKind.i64 ((↑(List.length (Prod.snd b0)) : Int) + 1))) : Int) ∧ (↑(Int.toNat (IntKind.wrap IntKind.i64 ((↑(List.length (Prod.snd b0)) : Int) + 1))) : Int) ≤ (↑(Int.toNat (IntKind.wrap IntKind.i64 ((↑(List.length (Prod.snd b0)) : Int) + 1))) : Int) then ((lsub (Prod.snd b0) b1 (↑(List.length (Prod.snd b0)) : Int)).bind fun b11 =>
      ((lcopy b10 (0 + Int.toNat (IntKind.wrap IntKind.i64 (b1 + 1))) (Int.toNat (↑(Int.toNat (IntKind.wrap IntKind.i64 ((↑(List.length (Prod.snd b0)) : Int) + 1))) : Int) - Int.toNat (IntKind.wrap IntKind.i64 (b1 + 1))) b11).bind fun b12 =>
      ((lpart b12 0 (Int.toNat (IntKind.wrap IntKind.i64 ((↑(List.length (Prod.snd b0)) : Int) + 1)))).bind fun b13 =>
      (some ((a0, b13))))))
     else none))
    else none)))
   else none)))) := by kernel_rfl
noncomputable def msg_With.f : El (sgTy msg_With.sg) → Option (El msg_With.rs.ty) := fun x => match x with
  | ((a0, a1), (a2, a3)) =>
  ((msg_Without.f ((a0, a1), a2)).bind fun b0 =>
  ((slices_IndexFunc.f (Prod.snd b0, a2)).bind fun b1 =>
  (if b1 < 0 then (if 0 ≤ IntKind.wrap IntKind.i64 ((↑(List.length (Prod.snd b0)) : Int) + 1) ∧ 24 * IntKind.wrap IntKind.i64 ((↑(List.length (Prod.snd b0)) : Int) + 1) ≤ 281474976710656 then ((lsub (Prod.snd b0) 0 (↑(List.length (Prod.snd b0)) : Int)).bind fun b2 =>
    ((lcopy (List.replicate (Int.toNat (IntKind.wrap IntKind.i64 ((↑(List.length (Prod.snd b0)) : Int) + 1))) (0, ByteArray.mk #[])) 0 (Int.toNat (IntKind.wrap IntKind.i64 ((↑(List.length (Prod.snd b0)) : Int) + 1))) b2).bind fun b3 =>
    (if 0 ≤ (↑(List.length (Prod.snd b0)) : Int) ∧ (↑(List.length (Prod.snd b0)) : Int) < (↑(Int.toNat (IntKind.wrap IntKind.i64 ((↑(List.length (Prod.snd b0)) : Int) + 1))) : Int) then ((lset b3 (0 + Int.toNat (↑(List.length (Prod.snd b0)) : Int)) (a2, a3)).bind fun b4 =>
     (if 0 ≤ IntKind.wrap IntKind.i64 ((↑(List.length (Prod.snd b0)) : Int) + 1) ∧ IntKind.wrap IntKind.i64 ((↑(List.length (Prod.snd b0)) : Int) + 1) ≤ (↑(Int.toNat (IntKind.wrap IntKind.i64 ((↑(List.length (Prod.snd b0)) : Int) + 1))) : Int) ∧ (↑(Int.toNat (IntKind.wrap IntKind.i64 ((↑(List.length (Prod.snd b0)) : Int) + 1))) : Int) ≤ (↑(Int.toNat (IntKind.wrap IntKind.i64 ((↑(List.length (Prod.snd b0)) : Int) + 1))) : Int) then ((lsub (Prod.snd b0) (↑(List.length (Prod.snd b0)) : Int) (↑(List.length (Prod.snd b0)) : Int)).bind fun b5 =>
      ((lcopy b4 (0 + Int.toNat (IntKind.wrap IntKind.i64 ((↑(List.length (Prod.snd b0)) : Int) + 1))) (Int.toNat (↑(Int.toNat (IntKind.wrap IntKind.i64 ((↑(List.length (Prod.snd b0)) : Int) + 1))) : Int) - Int.toNat (IntKind.wrap IntKind.i64 ((↑(List.length (Prod.snd b0)) : Int) + 1))) b5).bind fun b6 =>
      ((lpart b6 0 (Int.toNat (IntKind.wrap IntKind.i64 ((↑(List.length (Prod.snd b0)) : Int) + 1)))).bind fun b7 =>
      (some ((a0, b7))))))
     else none))
    else none)))
   else none)
  else (if 0 ≤ IntKind.wrap IntKind.i64 ((↑(List.length (Prod.snd b0)) : Int) + 1) ∧ 24 * IntKind.wrap IntKind.i64 ((↑(List.length (Prod.snd b0)) : Int) + 1) ≤ 281474976710656 then ((lsub (Prod.snd b0) 0 b1).bind fun b8 =>
    ((lcopy (List.replicate (Int.toNat (IntKind.wrap IntKind.i64 ((↑(List.length (Prod.snd b0)) : Int) + 1))) (0, ByteArray.mk #[])) 0 (Int.toNat (IntKind.wrap IntKind.i64 ((↑(List.length (Prod.snd b0)) : Int) + 1))) b8).bind fun b9 =>
    (if 0 ≤ b1 ∧ b1 < (↑(Int.toNat (IntKind.wrap IntKind.i64 ((↑(List.length (Prod.snd b0)) : Int) + 1))) : Int) then ((lset b9 (0 + Int.toNat b1) (a2, a3)).bind fun b10 =>
     (if 0 ≤ IntKind.wrap IntKind.i64 (b1 + 1) ∧ IntKind.wrap IntKind.i64 (b1 + 1) ≤ (↑(Int.toNat (IntKind.wrap IntKind.i64 ((↑(List.length (Prod.snd b0)) : Int) + 1))) : Int) ∧ (↑(Int.toNat (IntKind.wrap IntKind.i64 ((↑(List.length (Prod.snd b0)) : Int) + 1))) : Int) ≤ (↑(Int.toNat (IntKind.wrap IntKind.i64 ((↑(List.length (Prod.snd b0)) : Int) + 1))) : Int) then ((lsub (Prod.snd b0) b1 (↑(List.length (Prod.snd b0)) : Int)).bind fun b11 =>
      ((lcopy b10 (0 + Int.toNat (IntKind.wrap IntKind.i64 (b1 + 1))) (Int.toNat (↑(Int.toNat (IntKind.wrap IntKind.i64 ((↑(List.length (Prod.snd b0)) : Int) + 1))) : Int) - Int.toNat (IntKind.wrap IntKind.i64 (b1 + 1))) b11).bind fun b12 =>
      ((lpart b12 0 (Int.toNat (IntKind.wrap IntKind.i64 ((↑(List.length (Prod.snd b0)) : Int) + 1)))).bind fun b13 =>
      (some ((a0, b13))))))
     else none))
    else none)))
   else none))))
noncomputable def msg_With.c : Con := ⟨62, msg_With.sg, msg_With.rs, msg_With.f⟩
theorem msg_With.con : ConOk Tryz.prog msg_With.c := walked (C := msg_With.C) rfl (by kernel_rfl) (by kernel_rfl) (by kernel_rfl) rfl ⟨msg_Without.con, slices_IndexFunc.con, trivial⟩ fun ⟨⟨a0, a1⟩, ⟨a2, a3⟩⟩ y h => ⟨0, (msg_With.eq 0 a0 a1 a2 a3).trans h⟩
theorem msg_With (t : ByteArray) (l : List V) (hl : l.length ≤ 5864062014700) (n : Int) (x : ByteArray) : msg_With.f ((t, l), n, x) = some (t, withV n x l) := by
  have hw := without_length n l
  have e0 := insV_cut n x (without n l)
  unfold withV
  simp only [msg_With.f]
  rw [msg_Without t l hl, Option.bind_some]
  dsimp only
  generalize without n l = w at *
  have hu := upTo_le n w
  rw [slices_IndexFunc w (by omega), Option.bind_some]
  have w1 : IntKind.wrap .i64 ((w.length : Int) + 1) = ((w.length + 1 : Nat) : Int) := by rw [wrap_id (by omega) (by omega)]; omega
  simp only [w1, Int.toNat_natCast, Nat.zero_add]
  unfold idxV
  by_cases c : upTo n w < w.length
  · have w2 : IntKind.wrap .i64 ((upTo n w : Int) + 1) = ((upTo n w + 1 : Nat) : Int) := by rw [wrap_id (by omega) (by omega)]; omega
    simp only [if_pos c, w2, Int.toNat_natCast]
    have l1 : lsub w 0 (upTo n w : Int) = some (w.take (upTo n w)) := by
      unfold lsub
      rw [if_pos (by omega)]; rfl
    have l2 : lsub w (upTo n w : Int) (w.length : Int) = some (w.drop (upTo n w)) := by
      unfold lsub
      rw [if_pos (by omega), Int.toNat_natCast, Int.toNat_natCast, List.take_length]
    have p := put_run w (upTo n w) hu (n, x) ((0 : Int), (ByteArray.mk #[]))
    rw [if_neg (by omega), if_pos (by omega), l1, Option.bind_some, l2]
    rw [← e0] at p
    obtain ⟨b1, q1, p⟩ := Option.bind_eq_some_iff.1 p
    obtain ⟨b2, q2, p⟩ := Option.bind_eq_some_iff.1 p
    obtain ⟨b3, q3, p⟩ := Option.bind_eq_some_iff.1 p
    rw [q1, Option.bind_some, if_pos (by omega), q2, Option.bind_some, if_pos (by omega), Option.bind_some, q3, Option.bind_some, p, Option.bind_some]
  · have hu2 : upTo n w = w.length := by omega
    simp only [if_neg c]
    have l1 : lsub w 0 (w.length : Int) = some (w.take (upTo n w)) := by
      unfold lsub
      rw [if_pos (by omega), hu2]; rfl
    have l2 : lsub w (w.length : Int) (w.length : Int) = some (w.drop (upTo n w)) := by
      unfold lsub
      rw [if_pos (by omega), hu2, Int.toNat_natCast, List.take_length]
    have p := put_run w (upTo n w) hu (n, x) ((0 : Int), (ByteArray.mk #[]))
    rw [if_pos (by decide), if_pos (by omega), l1, Option.bind_some, l2]
    rw [← e0] at p
    obtain ⟨b1, q1, p⟩ := Option.bind_eq_some_iff.1 p
    obtain ⟨b2, q2, p⟩ := Option.bind_eq_some_iff.1 p
    obtain ⟨b3, q3, p⟩ := Option.bind_eq_some_iff.1 p
    rw [hu2] at q2 q3
    rw [q1, Option.bind_some, if_pos (by omega), q2, hu2, Option.bind_some, if_pos (by omega), Option.bind_some, q3, Option.bind_some, p, Option.bind_some]
end Go.Proofs.YtkaihbkfobiejaaGreatDoor.Xe

/- What the program's refusals answer. -/
namespace Go.Proofs.YtkaihbkfobiejaaGreatDoor.Xe
open Go Go.RowKit Go.Proofs.YtkaihbkfobiejaaGreatDoor.Sp
set_option linter.unusedVariables false
set_option linter.unusedSimpArgs false
set_option maxRecDepth 100000
/-! ### mti_Request -/
@[reducible] def mti_Request.sg : List Shp := [.v (.str)]
@[reducible] def mti_Request.rs : Rs := .one (.v (.bool))
@[reducible] noncomputable def mti_Request.code : Code := Tryz.f132.body.getD .skip
noncomputable def mti_Request.C : Ctx := ⟨tab, [mti_Right.c], [], ⟨[], []⟩⟩
theorem mti_Request.eq (n : Nat) (a0 : ByteArray) : call mti_Request.C Tryz.f132 mti_Request.code mti_Request.sg mti_Request.rs n a0 =
  ((mti_Right.f a0).bind fun b0 =>
  (if b0 = true then ((bget a0 2).bind fun b1 =>
   (if (↑(UInt8.toNat b1) : Int) = 48 then (some true)
   else ((bget a0 2).bind fun b2 =>
    (some (decide ((↑(UInt8.toNat b2) : Int) = 50))))))
  else (some false))) := by kernel_rfl
noncomputable def mti_Request.f : El (sgTy mti_Request.sg) → Option (El mti_Request.rs.ty) := fun x => match x with
  | a0 =>
  ((mti_Right.f a0).bind fun b0 =>
  (if b0 = true then ((bget a0 2).bind fun b1 =>
   (if (↑(UInt8.toNat b1) : Int) = 48 then (some true)
   else ((bget a0 2).bind fun b2 =>
    (some (decide ((↑(UInt8.toNat b2) : Int) = 50))))))
  else (some false)))
noncomputable def mti_Request.c : Con := ⟨132, mti_Request.sg, mti_Request.rs, mti_Request.f⟩
theorem mti_Request.con : ConOk Tryz.prog mti_Request.c := walked (C := mti_Request.C) rfl (by kernel_rfl) (by kernel_rfl) (by kernel_rfl) rfl ⟨mti_Right.con, trivial⟩ fun a0 y h => ⟨0, (mti_Request.eq 0 a0).trans h⟩
theorem mti_Request (t : List UInt8) : mti_Request.f (sb t) = some (asks t) := by
  simp only [mti_Request.f]
  rw [mti_Right, Option.bind_some]
  by_cases h : right t = true
  · obtain ⟨a, b, c, d, rfl, -⟩ := four h
    have g : bget (sb [a, b, c, d]) 2 = some c := rfl
    rw [if_pos h, g, Option.bind_some, Option.bind_some]
    unfold asks
    rw [h, Bool.true_and]
    show (if (c.toNat : Int) = 48 then some true else some (decide ((c.toNat : Int) = 50))) = some (decide (c.toNat = 48) || decide (c.toNat = 50))
    by_cases h1 : c.toNat = 48
    · rw [if_pos (by omega), decide_eq_true h1]; rfl
    · rw [if_neg (by omega), decide_eq_false h1, Bool.false_or]
      congr 1
      exact decide_eq_decide.2 (by omega)
  · rw [if_neg h]
    unfold asks
    rw [Bool.eq_false_iff.2 h]; rfl
/-! ### mti_Response -/
@[reducible] def mti_Response.sg : List Shp := [.v (.str)]
@[reducible] def mti_Response.rs : Rs := .tup [.v (.str), .v (.bool)]
@[reducible] noncomputable def mti_Response.code : Code := Tryz.f116.body.getD .skip
noncomputable def mti_Response.C : Ctx := ⟨tab, [mti_Request.c], [], ⟨[], []⟩⟩
theorem mti_Response.eq (n : Nat) (a0 : ByteArray) : call mti_Response.C Tryz.f116 mti_Response.code mti_Response.sg mti_Response.rs n a0 =
  ((mti_Request.f a0).bind fun b0 =>
  (if ¬b0 = true then (some ((ByteArray.mk #[], false)))
  else ((ssub a0 0 2).bind fun b1 =>
   ((bget a0 2).bind fun b2 =>
   ((scat b1 (bytesOf [IntKind.wrap IntKind.u8 ((↑(UInt8.toNat b2) : Int) + 1)])).bind fun b3 =>
   ((ssub a0 3 (↑(ByteArray.size a0) : Int)).bind fun b4 =>
   ((scat b3 b4).bind fun b5 =>
   (some ((b5, true)))))))))) := by kernel_rfl
noncomputable def mti_Response.f : El (sgTy mti_Response.sg) → Option (El mti_Response.rs.ty) := fun x => match x with
  | a0 =>
  ((mti_Request.f a0).bind fun b0 =>
  (if ¬b0 = true then (some ((ByteArray.mk #[], false)))
  else ((ssub a0 0 2).bind fun b1 =>
   ((bget a0 2).bind fun b2 =>
   ((scat b1 (bytesOf [IntKind.wrap IntKind.u8 ((↑(UInt8.toNat b2) : Int) + 1)])).bind fun b3 =>
   ((ssub a0 3 (↑(ByteArray.size a0) : Int)).bind fun b4 =>
   ((scat b3 b4).bind fun b5 =>
   (some ((b5, true))))))))))
noncomputable def mti_Response.c : Con := ⟨116, mti_Response.sg, mti_Response.rs, mti_Response.f⟩
theorem mti_Response.con : ConOk Tryz.prog mti_Response.c := walked (C := mti_Response.C) rfl (by kernel_rfl) (by kernel_rfl) (by kernel_rfl) rfl ⟨mti_Request.con, trivial⟩ fun a0 y h => ⟨0, (mti_Response.eq 0 a0).trans h⟩
theorem mti_Response (t : List UInt8) : mti_Response.f (sb t) = some (if asks t = true then (sb (answer t), true) else (sb [], false)) := by
  simp only [mti_Response.f]
  rw [mti_Request, Option.bind_some]
  by_cases h : asks t = true
  · obtain ⟨a, b, c, d, rfl, -, -, -, -, hc⟩ := asks_four h
    have g : bget (sb [a, b, c, d]) 2 = some c := rfl
    have w : IntKind.wrap .u8 ((c.toNat : Int) + 1) = ((c.toNat + 1 : Nat) : Int) := by
      show (if (false && decide (((c.toNat : Int) + 1) % 256 ≥ 128)) = true then ((c.toNat : Int) + 1) % 256 - 256 else ((c.toNat : Int) + 1) % 256) = _
      simp only [Bool.false_and, Bool.false_eq_true, if_false]; omega
    have s1 : ssub (sb [a, b, c, d]) 0 2 = some (sb [a, b]) := rfl
    have s2 : ssub (sb [a, b, c, d]) 3 ((sb [a, b, c, d]).size : Int) = some (sb [d]) := rfl
    rw [if_neg (not_not_intro h), s1, Option.bind_some, g, Option.bind_some, w, strOne, scat_sb _ _ (by simp), Option.bind_some, s2, Option.bind_some, scat_sb _ _ (by simp), Option.bind_some, if_pos h]
    rfl
  · rw [if_pos h, if_neg h]; rfl
/-! ### reject_Build -/
@[reducible] def reject_Build.sg : List Shp := [.a (.pair (.pair (.int .i64) (.pair (.int .i64) (.sl (.pair (.int .i64) (.pair (.int .i64) (.pair (.int .i64) (.pair (.int .i64) (.int .i64)))))))) (.pair (.pair (.sl (.pair (.str) (.str))) (.sl (.pair (.int .i64) (.pair (.int .i64) (.pair (.int .i64) (.pair (.str) (.sl (.pair (.str) (.str))))))))) (.pair (.sl (.int .i64)) (.sl (.pair (.int .i64) (.str)))))), .a (.pair (.str) (.sl (.pair (.int .i64) (.str)))), .a (.pair (.int .i64) (.int .i64))]
@[reducible] def reject_Build.rs : Rs := .tup [.a (.pair (.str) (.sl (.pair (.int .i64) (.str)))), .v (.bool)]
@[reducible] noncomputable def reject_Build.code : Code := Tryz.f77.body.getD .skip
noncomputable def reject_Build.C : Ctx := ⟨tab, [msg_With.c, mti_Response.c, msg_Get.c, reject_Code.c], [], ⟨[(6, [3, 4, 5, 6, 10, 27, 28, 29], 5)], []⟩⟩
noncomputable def reject_Build.l0 (n : Nat) (v0 : List Int) (v1 : Int) (v2 : Int) (v3 : Int) (v4 : Int) (v5 : List ((Int × (Int × (Int × (Int × Int)))))) (v6 : List ((ByteArray × ByteArray))) (v7 : List ((Int × (Int × (Int × (ByteArray × List ((ByteArray × ByteArray)))))))) (v8 : List Int) (v9 : List ((Int × ByteArray))) (v10 : ByteArray) (v11 : List ((Int × ByteArray))) (v12 : Int) (v13 : Int) (v14 : ByteArray) (v15 : ByteArray) : Option (((ByteArray × List ((Int × ByteArray))) × Bool)) := run reject_Build.C (finOf reject_Build.C Tryz.f77 reject_Build.rs) n (todoAt 6 reject_Build.code) ⟨[.junk, .junk, .junk, .ptr 0 0, .ptr 1 0, .ptr 2 0, .ptr 3 0, .junk, .junk, .junk, .ptr 4 0, .junk, .junk, .junk, .junk, .junk, .junk, .junk, .junk, .junk, .junk, .junk, .junk, .junk, .junk, .junk, .junk, .sl none (.int .i64) v0, .int .i64 v1, .int .i64 v2, .junk, .junk, .junk, .junk, .junk, .junk, .junk, .junk, .junk, .junk, .junk, .junk, .junk, .junk, .junk, .junk, .junk, .junk, .junk, .junk, .junk], [[.int .i64 v3, .int .i64 v4, .sl none (.pair (.int .i64) (.pair (.int .i64) (.pair (.int .i64) (.pair (.int .i64) (.int .i64))))) v5, .sl none (.pair (.str) (.str)) v6, .sl none (.pair (.int .i64) (.pair (.int .i64) (.pair (.int .i64) (.pair (.str) (.sl (.pair (.str) (.str))))))) v7, .sl none (.int .i64) v8, .sl none (.pair (.int .i64) (.str)) v9], [.str v10, .sl none (.pair (.int .i64) (.str)) v11], [.int .i64 v12, .int .i64 v13], [.str v14, .nilsl], [.str v15, .nilsl]], []⟩
noncomputable def reject_Build.l1 (n : Nat) (v0 : List Int) (v1 : Int) (v2 : Int) (v3 : Int) (v4 : Int) (v5 : List ((Int × (Int × (Int × (Int × Int)))))) (v6 : List ((ByteArray × ByteArray))) (v7 : List ((Int × (Int × (Int × (ByteArray × List ((ByteArray × ByteArray)))))))) (v8 : List Int) (v9 : List ((Int × ByteArray))) (v10 : ByteArray) (v11 : List ((Int × ByteArray))) (v12 : Int) (v13 : Int) (v14 : ByteArray) (v15 : ByteArray) (v16 : List ((Int × ByteArray))) : Option (((ByteArray × List ((Int × ByteArray))) × Bool)) := run reject_Build.C (finOf reject_Build.C Tryz.f77 reject_Build.rs) n (todoAt 6 reject_Build.code) ⟨[.junk, .junk, .junk, .ptr 0 0, .ptr 1 0, .ptr 2 0, .ptr 3 0, .junk, .junk, .junk, .ptr 4 0, .junk, .junk, .junk, .junk, .junk, .junk, .junk, .junk, .junk, .junk, .junk, .junk, .junk, .junk, .junk, .junk, .sl none (.int .i64) v0, .int .i64 v1, .int .i64 v2, .junk, .junk, .junk, .junk, .junk, .junk, .junk, .junk, .junk, .junk, .junk, .junk, .junk, .junk, .junk, .junk, .junk, .junk, .junk, .junk, .junk], [[.int .i64 v3, .int .i64 v4, .sl none (.pair (.int .i64) (.pair (.int .i64) (.pair (.int .i64) (.pair (.int .i64) (.int .i64))))) v5, .sl none (.pair (.str) (.str)) v6, .sl none (.pair (.int .i64) (.pair (.int .i64) (.pair (.int .i64) (.pair (.str) (.sl (.pair (.str) (.str))))))) v7, .sl none (.int .i64) v8, .sl none (.pair (.int .i64) (.str)) v9], [.str v10, .sl none (.pair (.int .i64) (.str)) v11], [.int .i64 v12, .int .i64 v13], [.str v14, .nilsl], [.str v15, .sl none (.pair (.int .i64) (.str)) v16]], []⟩
-- the loop at region 6
theorem reject_Build.l0_eq (n : Nat) (v0 : List Int) (v1 : Int) (v2 : Int) (v3 : Int) (v4 : Int) (v5 : List ((Int × (Int × (Int × (Int × Int)))))) (v6 : List ((ByteArray × ByteArray))) (v7 : List ((Int × (Int × (Int × (ByteArray × List ((ByteArray × ByteArray)))))))) (v8 : List Int) (v9 : List ((Int × ByteArray))) (v10 : ByteArray) (v11 : List ((Int × ByteArray))) (v12 : Int) (v13 : Int) (v14 : ByteArray) (v15 : ByteArray) : reject_Build.l0 (n + 1) v0 v1 v2 v3 v4 v5 v6 v7 v8 v9 v10 v11 v12 v13 v14 v15 =
  (if v2 < v1 then ((lget v0 v2).bind fun b1 =>
   ((msg_Get.f ((v10, v11), b1)).bind fun b2 =>
   (if Prod.snd b2 = true then ((msg_With.f ((v15, []), b1, Prod.fst b2)).bind fun b3 =>
    (reject_Build.l1 n v0 v1 (IntKind.wrap IntKind.i64 (v2 + 1)) v3 v4 v5 v6 v7 v8 v9 v10 v11 v12 v13 v14 (Prod.fst b3) (Prod.snd b3)))
   else (reject_Build.l0 n v0 v1 (IntKind.wrap IntKind.i64 (v2 + 1)) v3 v4 v5 v6 v7 v8 v9 v10 v11 v12 v13 v14 v15))))
  else ((reject_Code.f (((v3, v4, v5), (v6, v7), v8, v9), v12)).bind fun b4 =>
   ((msg_With.f ((v15, []), 39, b4)).bind fun b5 =>
   (some ((b5, true)))))) := by kernel_rfl
-- the loop at region 6
theorem reject_Build.l1_eq (n : Nat) (v0 : List Int) (v1 : Int) (v2 : Int) (v3 : Int) (v4 : Int) (v5 : List ((Int × (Int × (Int × (Int × Int)))))) (v6 : List ((ByteArray × ByteArray))) (v7 : List ((Int × (Int × (Int × (ByteArray × List ((ByteArray × ByteArray)))))))) (v8 : List Int) (v9 : List ((Int × ByteArray))) (v10 : ByteArray) (v11 : List ((Int × ByteArray))) (v12 : Int) (v13 : Int) (v14 : ByteArray) (v15 : ByteArray) (v16 : List ((Int × ByteArray))) : reject_Build.l1 (n + 1) v0 v1 v2 v3 v4 v5 v6 v7 v8 v9 v10 v11 v12 v13 v14 v15 v16 =
  (if v2 < v1 then ((lget v0 v2).bind fun b6 =>
   ((msg_Get.f ((v10, v11), b6)).bind fun b7 =>
   (if Prod.snd b7 = true then ((msg_With.f ((v15, v16), b6, Prod.fst b7)).bind fun b8 =>
    (reject_Build.l1 n v0 v1 (IntKind.wrap IntKind.i64 (v2 + 1)) v3 v4 v5 v6 v7 v8 v9 v10 v11 v12 v13 v14 (Prod.fst b8) (Prod.snd b8)))
   else (reject_Build.l1 n v0 v1 (IntKind.wrap IntKind.i64 (v2 + 1)) v3 v4 v5 v6 v7 v8 v9 v10 v11 v12 v13 v14 v15 v16))))
  else ((reject_Code.f (((v3, v4, v5), (v6, v7), v8, v9), v12)).bind fun b9 =>
   ((msg_With.f ((v15, v16), 39, b9)).bind fun b10 =>
   (some ((b10, true)))))) := by kernel_rfl
theorem reject_Build.eq (n : Nat) (a0 : Int) (a1 : Int) (a2 : List ((Int × (Int × (Int × (Int × Int)))))) (a3 : List ((ByteArray × ByteArray))) (a4 : List ((Int × (Int × (Int × (ByteArray × List ((ByteArray × ByteArray)))))))) (a5 : List Int) (a6 : List ((Int × ByteArray))) (a7 : ByteArray) (a8 : List ((Int × ByteArray))) (a9 : Int) (a10 : Int) : call reject_Build.C Tryz.f77 reject_Build.code reject_Build.sg reject_Build.rs n (((a0, (a1, a2)), ((a3, a4), (a5, a6))), ((a7, a8), (a9, a10))) =
  ((mti_Response.f a7).bind fun b0 =>
  (if ¬Prod.snd b0 = true then (some (((ByteArray.mk #[], []), false)))
  else (reject_Build.l0 n a5 ((↑(List.length a5) : Int)) 0 a0 a1 a2 a3 a4 a5 a6 a7 a8 a9 a10 (ByteArray.mk #[]) (Prod.fst b0)))) := by kernel_rfl
def reject_Build.f (x : RJ × (ByteArray × List V) × Int × Int) : Option ((ByteArray × List V) × Bool) := if x.1.2.2.1.length ≤ 17592186044416 ∧ x.1.2.2.2.length ≤ 5864062014700 ∧ x.2.1.2.length ≤ 5864062014690 then some (rejB x.1 (bl x.2.1.1) x.2.1.2 x.2.2.1) else none
theorem withV_length' (n : Int) (x : ByteArray) (l : List V) : (withV n x l).length ≤ l.length + 1 := by
  unfold withV
  rw [insV_cut, List.length_append, List.length_append, List.length_take, List.length_drop, List.length_singleton]
  have := without_length n l
  omega
theorem reject_Build_l1 (q1 q2 : Int) (s : List S5) (c1 : List (ByteArray × ByteArray)) (c2 : List (Int × Int × Int × ByteArray × List (ByteArray × ByteArray))) (e : List Int) (he : e.length ≤ 17592186044416) (l : List V) (hl : l.length ≤ 5864062014700) (t u v : ByteArray) (g : List V) (hg : g.length ≤ 5864062014690) (y z : Int) :
    ∀ (m : List Int) (o : List V) (k i : Nat), e.drop i = m → Own g o → m.length < k →
    reject_Build.l1 k e (e.length : Int) (i : Int) q1 q2 s c1 c2 e l t g y z v u o = some ((u, withV 39 (codeV y l) (echoed g m o)), true)
  | [], o, k, i, hd, ho, hk => by
    obtain ⟨k, rfl⟩ : ∃ m, k = m + 1 := ⟨k - 1, by omega⟩
    have := dropn hd
    have ho' := ho.len
    rw [reject_Build.l1_eq, if_neg (by omega), reject_Code (q1, q2, s) (c1, c2) e l hl y, Option.bind_some, msg_With u o (by omega), Option.bind_some]; rfl
  | x :: m, o, k, i, hd, ho, hk => by
    obtain ⟨k, rfl⟩ : ∃ m, k = m + 1 := ⟨k - 1, by omega⟩
    obtain ⟨h1, h2, h3, h4⟩ := dropc hd
    have hk' : m.length < k := by simp at hk; omega
    have ho' := ho.len
    rw [reject_Build.l1_eq, if_pos (by omega), h4, Option.bind_some, msg_Get t g (by omega), Option.bind_some, wrap_succ (by omega), echoed]
    by_cases c : (getV x g).2 = true
    · have hx : x ∈ g.map Prod.fst := List.mem_map.2 ⟨_, getV_mem x c, rfl⟩
      rw [if_pos c, if_pos c, msg_With u o (by omega), Option.bind_some]
      exact reject_Build_l1 q1 q2 s c1 c2 e he l hl t u v g hg y z m _ k (i + 1) h2 (ho.withV _ hx) hk'
    · rw [if_neg c, if_neg c]
      exact reject_Build_l1 q1 q2 s c1 c2 e he l hl t u v g hg y z m o k (i + 1) h2 ho hk'
theorem reject_Build_l0 (q1 q2 : Int) (s : List S5) (c1 : List (ByteArray × ByteArray)) (c2 : List (Int × Int × Int × ByteArray × List (ByteArray × ByteArray))) (e : List Int) (he : e.length ≤ 17592186044416) (l : List V) (hl : l.length ≤ 5864062014700) (t u v : ByteArray) (g : List V) (hg : g.length ≤ 5864062014690) (y z : Int) :
    ∀ (m : List Int) (k i : Nat), e.drop i = m → m.length < k →
    reject_Build.l0 k e (e.length : Int) (i : Int) q1 q2 s c1 c2 e l t g y z v u = some ((u, withV 39 (codeV y l) (echoed g m [])), true)
  | [], k, i, hd, hk => by
    obtain ⟨k, rfl⟩ : ∃ m, k = m + 1 := ⟨k - 1, by omega⟩
    have := dropn hd
    rw [reject_Build.l0_eq, if_neg (by omega), reject_Code (q1, q2, s) (c1, c2) e l hl y, Option.bind_some, msg_With u [] (by decide), Option.bind_some]; rfl
  | x :: m, k, i, hd, hk => by
    obtain ⟨k, rfl⟩ : ∃ m, k = m + 1 := ⟨k - 1, by omega⟩
    obtain ⟨h1, h2, h3, h4⟩ := dropc hd
    have hk' : m.length < k := by simp at hk; omega
    rw [reject_Build.l0_eq, if_pos (by omega), h4, Option.bind_some, msg_Get t g (by omega), Option.bind_some, wrap_succ (by omega), echoed]
    by_cases c : (getV x g).2 = true
    · have hx : x ∈ g.map Prod.fst := List.mem_map.2 ⟨_, getV_mem x c, rfl⟩
      rw [if_pos c, if_pos c, msg_With u [] (by decide), Option.bind_some]
      exact reject_Build_l1 q1 q2 s c1 c2 e he l hl t u v g hg y z m _ k (i + 1) h2 ((Own.nil g).withV _ hx) hk'
    · rw [if_neg c, if_neg c]
      exact reject_Build_l0 q1 q2 s c1 c2 e he l hl t u v g hg y z m k (i + 1) h2 hk'
theorem reject_Build (s : Int × Int × List S5) (c : RC) (e : List Int) (he : e.length ≤ 17592186044416) (l : List V) (hl : l.length ≤ 5864062014700) (t : List UInt8) (g : List V) (hg : g.length ≤ 5864062014690) (y z : Int) : reject_Build.f ((s, c, e, l), (sb t, g), y, z) = some (rejB (s, c, e, l) t g y) := if_pos ⟨he, hl, hg⟩
noncomputable def reject_Build.c : Con := ⟨77, reject_Build.sg, reject_Build.rs, reject_Build.f⟩
theorem reject_Build.con : ConOk Tryz.prog reject_Build.c := walked (C := reject_Build.C) rfl (by kernel_rfl) (by kernel_rfl) (by kernel_rfl) rfl ⟨msg_With.con, mti_Response.con, msg_Get.con, reject_Code.con, trivial⟩ fun ⟨⟨⟨q1, q2, s⟩, ⟨c1, c2⟩, e, l⟩, ⟨t, g⟩, y, z⟩ r h => by
  obtain ⟨t, rfl⟩ := ex_sb t
  have h : reject_Build.f (((q1, q2, s), (c1, c2), e, l), (sb t, g), y, z) = some r := h
  unfold reject_Build.f at h
  split at h
  · rename_i hc
    obtain ⟨he, hl, hg⟩ := hc
    refine ⟨List.length (α := Int) e + 1, ?_⟩
    rw [reject_Build.eq, mti_Response, Option.bind_some, ← h]
    show _ = some (rejB ((q1, q2, s), (c1, c2), e, l) t g y)
    unfold rejB
    by_cases c : asks t = true
    · rw [if_pos c, if_pos c, if_neg (fun q => q rfl)]
      exact reject_Build_l0 q1 q2 s c1 c2 e he l hl (sb t) (sb (answer t)) (ByteArray.mk #[]) g hg y z e _ 0 rfl (by omega)
    · rw [if_neg c, if_neg c, if_pos (fun q => by cases q)]; rfl
  · cases h
end Go.Proofs.YtkaihbkfobiejaaGreatDoor.Xe
