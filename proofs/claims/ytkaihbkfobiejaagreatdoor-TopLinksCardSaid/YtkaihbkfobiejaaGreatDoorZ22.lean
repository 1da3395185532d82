import Derived.Test.YtkaihbkfobiejaaGreatDoorZ21
import Derived.Test.YtkaihbkfobiejaaGreatDoorZ12
import Derived.Test.YtkaihbkfobiejaaGreatDoorZ11
import Derived.Test.YtkaihbkfobiejaaGreatDoorZ13
namespace Go.Proofs.YtkaihbkfobiejaaGreatDoor.Xe
open Go Go.RowKit Go.Proofs.YtkaihbkfobiejaaGreatDoor.Sp
set_option linter.unusedVariables false
set_option linter.unusedSimpArgs false
set_option maxRecDepth 100000
@[reducible] def r01_Get.sg : List Shp := [.v (.str)]
@[reducible] def r01_Get.rs : Rs := .tup [.v (.int .i64), .v (.bool)]
@[reducible] noncomputable def r01_Get.code : Code := Tryz.f168.body.getD .skip
noncomputable def r01_Get.C : Ctx := ⟨tab, [r01_All.c], [], ⟨[(5, [0, 4, 5], 0)], []⟩⟩
noncomputable def r01_Get.l0 (n : Nat) (v0 : ByteArray) (v1 v2 : Int) : Option ((Int × Bool)) := run r01_Get.C (finOf r01_Get.C Tryz.f168 r01_Get.rs) n (todoAt 5 r01_Get.code) ⟨.str v0 :: zJ :: zJ :: zJ :: .int .i64 v1 :: .int .i64 v2 :: zJ :: zJ :: zJ :: zJ :: zK (zK (zK [])), [], []⟩
theorem r01_Get.l0_eq n v0 v1 v2 : r01_Get.l0 (n + 1) v0 v1 v2 =
 (if v2 < (v0.size : Int) then ((bget v0 v2).bind fun b1 =>
 (r01_Get.l0 n v0 (IntKind.wrap .i64 (IntKind.wrap .i64 (IntKind.wrap .i64 (10 * v1) + IntKind.wrap .i64 (↑(UInt8.toNat b1) : Int)) - 48)) (IntKind.wrap .i64 (v2 + 1))))
 else (some ((v1, true)))) := by kernel_rfl
theorem r01_Get.eq (n : Nat) (a0 : ByteArray) : call r01_Get.C Tryz.f168 r01_Get.code r01_Get.sg r01_Get.rs n a0 =
 (if (a0.size : Int) < 1 then (some ((0, false)))
 else (if (a0.size : Int) > 18 then (some ((0, false)))
 else ((r01_All.f a0).bind fun b0 =>
 (if ¬b0 = true then (some ((0, false)))
 else (r01_Get.l0 n a0 0 0))))) := by kernel_rfl
def r01_Get.f (s : ByteArray) : Option (Int × Bool) := if s.size ≤ 1000000000000 then some (getNum (bl s)) else none
theorem r01_Get (l : List UInt8) (hl : l.length ≤ 1000000000000) : r01_Get.f (sb l) = some (getNum l) := by
 unfold r01_Get.f
 rw [if_pos (by rw [size_sb]; exact hl), bl_sb]
theorem r01_Get_l (l : List UInt8) (hl : l.length ≤ 18) : ∀ (m : List UInt8) (i k n : Nat), l.drop i = m → m.all dig = true → n < 10 ^ i → m.length < k → r01_Get.l0 k (sb l) (n : Int) i = some (((numFrom n m : Nat) : Int), true)
 | [], i, k, n, hd, ha, hn, hk => by
  obtain ⟨k, rfl⟩ : ∃ m, k = m + 1 := ⟨k - 1, by omega⟩
  have := dropn hd
  rw [r01_Get.l0_eq, if_neg (by rw [size_sb]; omega)]; rfl
 | a :: m, i, k, n, hd, ha, hn, hk => by
  obtain ⟨k, rfl⟩ : ∃ m, k = m + 1 := ⟨k - 1, by omega⟩
  obtain ⟨h1, h2, h3, -⟩ := dropc hd
  have hk' : m.length < k := by simp at hk; omega
  rw [List.all_cons, Bool.and_eq_true] at ha
  have hdg := (dig_iff a).1 ha.1
  have hp : 10 ^ i ≤ 10 ^ 17 := Nat.pow_le_pow_right (by decide) (by omega)
  have hp2 : 10 ^ (i + 1) = 10 * 10 ^ i := by rw [Nat.pow_succ, Nat.mul_comm]
  rw [show (10 : Nat) ^ 17 = 100000000000000000 from rfl] at hp
  have w : IntKind.wrap .i64 (IntKind.wrap .i64 (IntKind.wrap .i64 (10 * (n : Int)) + IntKind.wrap .i64 (a.toNat : Int)) - 48) = ((10 * n + (a.toNat - 48) : Nat) : Int) := by
   rw [wrap_nat (n := a.toNat) (by omega), wrap_id (x := 10 * (n : Int)) (by omega) (by omega), wrap_id (x := 10 * (n : Int) + (a.toNat : Int)) (by omega) (by omega), wrap_id (by omega) (by omega)]; omega
  rw [r01_Get.l0_eq, if_pos (by rw [size_sb]; omega), bget_drop hd, Option.bind_some, w, wrap_succ (by omega)]
  exact r01_Get_l l hl m (i + 1) k _ h2 ha.2 (by omega) hk'
theorem r01_Get.run (l : List UInt8) (hl : l.length ≤ 1000000000000) : call r01_Get.C Tryz.f168 r01_Get.code r01_Get.sg r01_Get.rs 20 (sb l) = some (getNum l) := by
 rw [r01_Get.eq, size_sb]
 unfold getNum
 by_cases h1 : (l.length : Int) < 1
 ·rw [if_pos h1, if_pos (.inl (by omega))]
 rw [if_neg h1]
 by_cases h2 : (l.length : Int) > 18
 ·rw [if_pos h2, if_pos (.inr (.inl (by omega)))]
 rw [if_neg h2, r01_All l hl, Option.bind_some]
 by_cases h3 : l.all dig = true
 ·rw [if_neg (not_not_intro h3), if_neg (show ¬ (l.length < 1 ∨ 18 < l.length ∨ l.all dig = false) from fun q => q.elim (by omega) fun q => q.elim (by omega) fun q => by rw [h3] at q; cases q)]
  exact r01_Get_l l (by omega) l 0 20 0 rfl h3 (by decide) (by omega)
 ·rw [if_pos h3, if_pos (.inr (.inr (by simpa using h3)))]
noncomputable def r01_Get.c : Con := ⟨168, r01_Get.sg, r01_Get.rs, r01_Get.f⟩
theorem r01_Get.con : ConOk Tryz.prog r01_Get.c := walked (C := r01_Get.C) rfl (by kernel_rfl) (by kernel_rfl) (by kernel_rfl) rfl ⟨r01_All.con, trivial⟩ fun s y h => by
 obtain ⟨l, rfl⟩ := ex_sb s
 have h : r01_Get.f (sb l) = some y := h
 unfold r01_Get.f at h
 split at h
 ·rename_i hc
  rw [size_sb] at hc
  rw [bl_sb] at h
  exact ⟨20, (r01_Get.run l hc).trans h⟩
 ·cases h
@[reducible] def r23_find.sg : List Shp := [.v (.sl zdE), .v (.int .i64), .v (.int .i64)]
@[reducible] def r23_find.rs : Rs := .one (.v (.int .i64))
@[reducible] noncomputable def r23_find.code : Code := Tryz.f141.body.getD .skip
noncomputable def r23_find.C : Ctx := ⟨tab, [], [], ⟨[(2, [0, 1, 2, 7], 0)], []⟩⟩
noncomputable def r23_find.l0 (n : Nat) (v0 : List zE) (v1 v2 v3 : Int) : Option Int := run r23_find.C (finOf r23_find.C Tryz.f141 r23_find.rs) n (todoAt 2 r23_find.code) ⟨.sl none zdE v0 :: .int .i64 v1 :: .int .i64 v2 :: zJ :: zJ :: zJ :: zJ :: .int .i64 v3 :: zJ :: zJ :: zJ :: zJ :: zJ :: zK [], [], []⟩
theorem r23_find.l0_eq n v0 v1 v2 v3 : r23_find.l0 (n + 1) v0 v1 v2 v3 =
 (if v3 < v1 then ((lget v0 v3).bind fun b0 =>
 (if b0.1 = v2 then (some v3)
 else (r23_find.l0 n v0 v1 v2 (IntKind.wrap .i64 (v3 + 1)))))
 else (some (-1))) := by kernel_rfl
theorem r23_find.eq (n : Nat) (a0 : List zE) (a1 a2 : Int) : call r23_find.C Tryz.f141 r23_find.code r23_find.sg r23_find.rs n (a0, (a1, a2)) =
 (r23_find.l0 n a0 a1 a2 0) := by kernel_rfl
def r23_find.f (x : List V × Int × Int) : Option Int := if 0 ≤ x.2.1 ∧ x.2.1 ≤ (x.1.length : Int) ∧ x.1.length ≤ 1000000 then some (findV x.2.2 0 (x.1.take x.2.1.toNat)) else none
theorem r23_find (l : List V) (hl : l.length ≤ 1000000) (c : Nat) (hc : c ≤ l.length) (n : Int) : r23_find.f (l, (c : Int), n) = some (findV n 0 (l.take c)) := if_pos ⟨by dsimp only; omega, by dsimp only; omega, hl⟩
theorem r23_find_l (l : List V) (hl : l.length ≤ 1000000) (c : Nat) (hc : c ≤ l.length) (n : Int) : ∀ (m : List V) (k i : Nat), (l.take c).drop i = m → m.length < k → r23_find.l0 k l (c : Int) n (i : Int) = some (findV n i m)
 | [], k, i, hd, hk => by
  obtain ⟨k, rfl⟩ : ∃ m, k = m + 1 := ⟨k - 1, by omega⟩
  have := dropn hd
  rw [List.length_take] at this
  rw [r23_find.l0_eq, if_neg (by omega)]; rfl
 | v :: m, k, i, hd, hk => by
  obtain ⟨k, rfl⟩ : ∃ m, k = m + 1 := ⟨k - 1, by omega⟩
  obtain ⟨e1, e2, e3, e4⟩ := dropc hd
  rw [List.length_take] at e1
  have e5 : lget l (i : Int) = some v := by
   have hh : i < l.length := by omega
   rw [lget_nat _ _ (by rw [List.length_take]; omega), List.getElem_take] at e4
   rw [lget_nat _ _ hh]; exact e4
  have hk' : m.length < k := by simp at hk; omega
  rw [r23_find.l0_eq, if_pos (by omega), e5, Option.bind_some, wrap_succ (by omega), r23_find_l l hl c hc n m k (i + 1) e2 hk', findV]
  split <;> rfl
noncomputable def r23_find.c : Con := ⟨141, r23_find.sg, r23_find.rs, r23_find.f⟩
theorem r23_find.con : ConOk Tryz.prog r23_find.c := walked (C := r23_find.C) rfl (by kernel_rfl) (by kernel_rfl) (by kernel_rfl) rfl trivial fun ⟨l, c, n⟩ y h => by
 have h : r23_find.f (l, c, n) = some y := h
 unfold r23_find.f at h
 split at h
 ·rename_i hc
  dsimp only at hc h
  obtain ⟨c, rfl⟩ := Int.eq_ofNat_of_zero_le hc.1
  exact ⟨c + 1, by rw [r23_find.eq]; exact (r23_find_l l hc.2.2 c (by omega) n _ _ 0 rfl (by rw [List.drop_zero, List.length_take]; omega)).trans h⟩
 ·cases h
@[reducible] def r23_Great.sg : List Shp := [.a zdK]
@[reducible] def r23_Great.rs : Rs := .one (.v (.bool))
@[reducible] noncomputable def r23_Great.code : Code := Tryz.f66.body.getD .skip
noncomputable def r23_Great.C : Ctx := ⟨tab, [], [], ⟨[(4, [1, 3], 1)], []⟩⟩
noncomputable def r23_Great.l0 (n : Nat) (v0 v1 v2 : Int) (v3 : List z5) (v4 : List zP) (v5 : List zR) (v6 : List Int) (v7 : List zE) : Option Bool := run r23_Great.C (finOf r23_Great.C Tryz.f66 r23_Great.rs) n (todoAt 4 r23_Great.code) ⟨zJ :: .ptr 0 0 :: zJ :: .int .i64 v0 :: zK (zK (zK (zK []))), [[.int .i64 v1, .int .i64 v2, .sl none zd5 v3, .sl none zdP v4, .sl none zdR v5, .sl none (.int .i64) v6, .sl none zdE v7]], []⟩
theorem r23_Great.l0_eq n v0 v1 v2 v3 v4 v5 v6 v7 : r23_Great.l0 (n + 1) v0 v1 v2 v3 v4 v5 v6 v7 =
 (if v0 < (v7.length : Int) then ((lget v7 v0).bind fun b0 =>
 (if (b0.2.size : Int) > 1200 then (some true)
 else (r23_Great.l0 n (IntKind.wrap .i64 (v0 + 1)) v1 v2 v3 v4 v5 v6 v7)))
 else (some false)) := by kernel_rfl
theorem r23_Great.eq (n : Nat) (a0 a1 : Int) (a2 : List z5) (a3 : List zP) (a4 : List zR) (a5 : List Int) (a6 : List zE) : call r23_Great.C Tryz.f66 r23_Great.code r23_Great.sg r23_Great.rs n ((a0, (a1, a2)), ((a3, a4), (a5, a6))) =
 (if (a2.length : Int) > 200 then (some true)
 else (if (a5.length : Int) > 300 then (some true)
 else (if (a6.length : Int) > 300 then (some true)
 else (r23_Great.l0 n 0 a0 a1 a2 a3 a4 a5 a6)))) := by kernel_rfl
def r23_Great.f (x : RJ) : Option Bool := some (greatR x)
theorem r23_Great_l (q1 q2 : Int) (s : List S5) (c1 : List (ByteArray × ByteArray)) (c2 : List (Int × Int × Int × ByteArray × List (ByteArray × ByteArray))) (e : List Int) (l : List V) (hl : l.length ≤ 300) : ∀ (m : List V) (k i : Nat), l.drop i = m → m.length < k → r23_Great.l0 k (i : Int) q1 q2 s c1 c2 e l = some (m.any fun v => decide (1200 < v.2.size))
 | [], k, i, hd, hk => by
  obtain ⟨k, rfl⟩ : ∃ m, k = m + 1 := ⟨k - 1, by omega⟩
  have := dropn hd
  rw [r23_Great.l0_eq, if_neg (by omega)]; rfl
 | v :: m, k, i, hd, hk => by
  obtain ⟨k, rfl⟩ : ∃ m, k = m + 1 := ⟨k - 1, by omega⟩
  obtain ⟨e1, e2, e3, e4⟩ := dropc hd
  have hk' : m.length < k := by simp at hk; omega
  rw [r23_Great.l0_eq, if_pos (by omega), e4, Option.bind_some, wrap_succ (by omega), r23_Great_l q1 q2 s c1 c2 e l hl m k (i + 1) e2 hk', List.any_cons]
  by_cases c : 1200 < v.2.size
  ·rw [if_pos (by omega), decide_eq_true c]; rfl
  ·rw [if_neg (by omega), decide_eq_false c]; rfl
theorem r23_Great (x : RJ) : r23_Great.f x = some (greatR x) := rfl
theorem r23_Great.run (q1 q2 : Int) (s : List S5) (c1 : List (ByteArray × ByteArray)) (c2 : List (Int × Int × Int × ByteArray × List (ByteArray × ByteArray))) (e : List Int) (l : List V) : call r23_Great.C Tryz.f66 r23_Great.code r23_Great.sg r23_Great.rs (l.length + 1) ((q1, q2, s), (c1, c2), e, l) = some (greatR ((q1, q2, s), (c1, c2), e, l)) := by
 rw [r23_Great.eq, greatR]
 dsimp only
 by_cases k1 : (s.length : Int) > 200
 ·rw [if_pos k1, decide_eq_true (by omega : 200 < s.length)]; rfl
 rw [if_neg k1, decide_eq_false (by omega : ¬ 200 < s.length), Bool.false_or]
 by_cases k2 : (e.length : Int) > 300
 ·rw [if_pos k2, decide_eq_true (by omega : 300 < e.length)]; rfl
 rw [if_neg k2, decide_eq_false (by omega : ¬ 300 < e.length), Bool.false_or]
 by_cases k3 : (l.length : Int) > 300
 ·rw [if_pos k3, decide_eq_true (by omega : 300 < l.length)]; rfl
 rw [if_neg k3, decide_eq_false (by omega : ¬ 300 < l.length), Bool.false_or]
 exact r23_Great_l q1 q2 s c1 c2 e l (by omega) l _ 0 rfl (by omega)
noncomputable def r23_Great.c : Con := ⟨66, r23_Great.sg, r23_Great.rs, r23_Great.f⟩
theorem r23_Great.con : ConOk Tryz.prog r23_Great.c := walked (C := r23_Great.C) rfl (by kernel_rfl) (by kernel_rfl) (by kernel_rfl) rfl trivial fun ⟨⟨q1, q2, s⟩, ⟨c1, c2⟩, e, l⟩ y h => ⟨_, (r23_Great.run q1 q2 s c1 c2 e l).trans h⟩
theorem getNum_four {a b c d : UInt8} (h : right [a, b, c, d] = true) : getNum [a, b, c, d] = (((1000 * (a.toNat - 48) + 100 * (b.toNat - 48) + 10 * (c.toNat - 48) + (d.toNat - 48) : Nat) : Int), true) := by
 have h2 := h
 simp only [right, Bool.and_eq_true, decide_eq_true_eq] at h2
 unfold getNum
 rw [if_neg (fun q => q.elim (by simp) fun q => q.elim (by simp) fun q => by rw [h2.2] at q; cases q)]
 have e : num [a, b, c, d] = 1000 * (a.toNat - 48) + 100 * (b.toNat - 48) + 10 * (c.toNat - 48) + (d.toNat - 48) := by
  show 10 * (10 * (10 * (10 * 0 + (a.toNat - 48)) + (b.toNat - 48)) + (c.toNat - 48)) + (d.toNat - 48) = _
  omega
 rw [e]
@[reducible] def r15_Request.sg : List Shp := [.v (.str)]
@[reducible] def r15_Request.rs : Rs := .one (.v (.bool))
@[reducible] noncomputable def r15_Request.code : Code := Tryz.f144.body.getD .skip
noncomputable def r15_Request.C : Ctx := ⟨tab, [r01_Get.c], [], ⟨[], []⟩⟩
theorem r15_Request.eq (n : Nat) (a0 : ByteArray) : call r15_Request.C Tryz.f144 r15_Request.code r15_Request.sg r15_Request.rs n a0 =
 ((r01_Get.f a0).bind fun b0 =>
 (if b0.2 = true then (if (a0.size : Int) = 4 then (if Int.tmod (IntKind.wrap .i64 (Int.tdiv b0.1 10)) 10 = 0 then (some true)
 else (some (decide (Int.tmod (IntKind.wrap .i64 (Int.tdiv b0.1 10)) 10 = 2))))
 else (some false))
 else (some false))) := by kernel_rfl
noncomputable def r15_Request.f : El (sgTy r15_Request.sg) → Option (El r15_Request.rs.ty) := fun x => match x with
 | a0 =>
 ((r01_Get.f a0).bind fun b0 =>
 (if Prod.snd b0 = true then (if (↑(ByteArray.size a0) : Int) = 4 then (if Int.tmod (IntKind.wrap IntKind.i64 (Int.tdiv (Prod.fst b0) 10)) 10 = 0 then (some true)
  else (some (decide (Int.tmod (IntKind.wrap IntKind.i64 (Int.tdiv (Prod.fst b0) 10)) 10 = 2))))
  else (some false))
 else (some false)))
noncomputable def r15_Request.c : Con := ⟨144, r15_Request.sg, r15_Request.rs, r15_Request.f⟩
theorem r15_Request.con : ConOk Tryz.prog r15_Request.c := walked (C := r15_Request.C) rfl (by kernel_rfl) (by kernel_rfl) (by kernel_rfl) rfl ⟨r01_Get.con, trivial⟩ fun a0 y h => ⟨0, (r15_Request.eq 0 a0).trans h⟩
theorem r15_Request (t : List UInt8) (ht : t.length ≤ 1000000000000) : r15_Request.f (sb t) = some (asks t) := by
 simp only [r15_Request.f]
 rw [r01_Get t ht, Option.bind_some, size_sb]
 by_cases h : right t = true
 ·obtain ⟨a, b, c, d, rfl, ha, hb, hc, hd⟩ := four h
  have ha := (dig_iff a).1 ha
  have hb := (dig_iff b).1 hb
  have hc := (dig_iff c).1 hc
  have hd := (dig_iff d).1 hd
  rw [getNum_four h]
  dsimp only
  generalize hq : 1000 * (a.toNat - 48) + 100 * (b.toNat - 48) + 10 * (c.toNat - 48) + (d.toNat - 48) = q
  have t1 : Int.tdiv (q : Int) 10 = ((q / 10 : Nat) : Int) := tdiv_nat q 10
  have t2 : Int.tmod ((q / 10 : Nat) : Int) 10 = ((q / 10 % 10 : Nat) : Int) := tmod_nat (q / 10) 10
  have e : q / 10 % 10 = c.toNat - 48 := by omega
  rw [if_pos rfl, if_pos (by simp), t1, wrap_nat (by omega), t2, e]
  unfold asks
  rw [h, Bool.true_and]
  show _ = some (decide (c.toNat = 48) || decide (c.toNat = 50))
  by_cases h1 : c.toNat = 48
  ·rw [if_pos (by omega), decide_eq_true h1]; rfl
  ·rw [if_neg (by omega), decide_eq_false h1, Bool.false_or]
   congr 1
   exact decide_eq_decide.2 (by omega)
 ·unfold asks
  rw [Bool.eq_false_iff.2 h, Bool.false_and]
  by_cases h1 : (getNum t).2 = true
  ·rw [if_pos h1]
   by_cases h2 : (t.length : Int) = 4
   ·exfalso
    apply h
    unfold getNum at h1
    split at h1
    ·cases h1
    ·rename_i hc
     simp only [not_or] at hc
     unfold right
     rw [decide_eq_true (by omega : t.length = 4), Bool.true_and]
     simpa using hc.2.2
   ·rw [if_neg h2]
  ·rw [if_neg h1]
@[reducible] def r20_Great.sg : List Shp := [.a zdR]
@[reducible] def r20_Great.rs : Rs := .one (.v (.bool))
@[reducible] noncomputable def r20_Great.code : Code := Tryz.f57.body.getD .skip
noncomputable def r20_Great.C : Ctx := ⟨tab, [], [], ⟨[(4, [1, 3], 1)], []⟩⟩
noncomputable def r20_Great.l0 (n : Nat) (v0 v1 v2 v3 : Int) (v4 : ByteArray) (v5 : List zP) : Option Bool := run r20_Great.C (finOf r20_Great.C Tryz.f57 r20_Great.rs) n (todoAt 4 r20_Great.code) ⟨zJ :: .ptr 0 0 :: zJ :: .int .i64 v0 :: zJ :: zJ :: zJ :: zK (zK (zK (zK []))), [[.int .i64 v1, .int .i64 v2, .int .i64 v3, .str v4, .sl none zdP v5]], []⟩
theorem r20_Great.l0_eq n v0 v1 v2 v3 v4 v5 : r20_Great.l0 (n + 1) v0 v1 v2 v3 v4 v5 =
 (if v0 < (v5.length : Int) then ((lget v5 v0).bind fun b0 =>
 (if (b0.1.size : Int) > 1200 then (some true)
 else ((lget v5 v0).bind fun b1 =>
 (if (b1.2.size : Int) > 1200 then (some true)
 else (r20_Great.l0 n (IntKind.wrap .i64 (v0 + 1)) v1 v2 v3 v4 v5)))))
 else (some false)) := by kernel_rfl
theorem r20_Great.eq (n : Nat) (a0 a1 a2 : Int) (a3 : ByteArray) (a4 : List zP) : call r20_Great.C Tryz.f57 r20_Great.code r20_Great.sg r20_Great.rs n (a0, (a1, (a2, (a3, a4)))) =
 (if (a3.size : Int) > 1200 then (some true)
 else (if (a4.length : Int) > 300 then (some true)
 else (r20_Great.l0 n 0 a0 a1 a2 a3 a4))) := by kernel_rfl
def r20_Great.f (r : RU) : Option Bool := some (greatU r)
theorem r20_Great_l (r0 r1 r2 : Int) (r3 : ByteArray) (l : List PB) (hl : l.length ≤ 300) : ∀ (m : List PB) (k i : Nat), l.drop i = m → m.length < k → r20_Great.l0 k (i : Int) r0 r1 r2 r3 l = some (m.any fun p => decide (1200 < p.1.size) || decide (1200 < p.2.size))
 | [], k, i, hd, hk => by
  obtain ⟨k, rfl⟩ : ∃ m, k = m + 1 := ⟨k - 1, by omega⟩
  have := dropn hd
  rw [r20_Great.l0_eq, if_neg (by omega)]; rfl
 | p :: m, k, i, hd, hk => by
  obtain ⟨k, rfl⟩ : ∃ m, k = m + 1 := ⟨k - 1, by omega⟩
  obtain ⟨h1, h2, h3, h4⟩ := dropc hd
  have hk' : m.length < k := by simp at hk; omega
  rw [r20_Great.l0_eq, if_pos (by omega), h4, Option.bind_some, Option.bind_some, wrap_succ (by omega), r20_Great_l r0 r1 r2 r3 l hl m k (i + 1) h2 hk', List.any_cons]
  by_cases c1 : 1200 < p.1.size
  ·rw [if_pos (by omega), decide_eq_true c1]; rfl
  ·rw [if_neg (by omega), decide_eq_false c1, Bool.false_or]
   by_cases c2 : 1200 < p.2.size
   ·rw [if_pos (by omega), decide_eq_true c2]; rfl
   ·rw [if_neg (by omega), decide_eq_false c2, Bool.false_or]
noncomputable def r20_Great.c : Con := ⟨57, r20_Great.sg, r20_Great.rs, r20_Great.f⟩
theorem r20_Great.con : ConOk Tryz.prog r20_Great.c := walked (C := r20_Great.C) rfl (by kernel_rfl) (by kernel_rfl) (by kernel_rfl) rfl trivial fun ⟨r0, r1, r2, r3, l⟩ z h => by
 have h : some (greatU (r0, r1, r2, r3, l)) = some z := h
 refine ⟨302, ?_⟩
 rw [r20_Great.eq, ← h]
 unfold greatU
 dsimp only
 by_cases c1 : 1200 < r3.size
 ·rw [if_pos (by omega), decide_eq_true c1]; rfl
 rw [if_neg (by omega), decide_eq_false c1, Bool.false_or]
 by_cases c2 : 300 < l.length
 ·rw [if_pos (by omega), decide_eq_true c2]; rfl
 rw [if_neg (by omega), decide_eq_false c2, Bool.false_or]
 exact r20_Great_l r0 r1 r2 r3 l (by omega) l _ 0 rfl (by omega)
@[reducible] def r21_Great.sg : List Shp := [.a zdM]
@[reducible] def r21_Great.rs : Rs := .one (.v (.bool))
@[reducible] noncomputable def r21_Great.code : Code := Tryz.f23.body.getD .skip
noncomputable def r21_Great.C : Ctx := ⟨tab, [r20_Great.c], [], ⟨[(4, [1, 3], 1), (9, [1, 4], 1)], []⟩⟩
noncomputable def r21_Great.l0 (n : Nat) (v0 : Int) (v1 : List zP) (v2 : List zR) : Option Bool := run r21_Great.C (finOf r21_Great.C Tryz.f23 r21_Great.rs) n (todoAt 4 r21_Great.code) ⟨zJ :: .ptr 0 0 :: zJ :: .int .i64 v0 :: zJ :: zK (zK (zK (zK (zK (zK []))))), [[.sl none zdP v1, .sl none zdR v2]], []⟩
noncomputable def r21_Great.l1 (n : Nat) (v0 : Int) (v1 : List zP) (v2 : List zR) : Option Bool := run r21_Great.C (finOf r21_Great.C Tryz.f23 r21_Great.rs) n (todoAt 9 r21_Great.code) ⟨zJ :: .ptr 0 0 :: zJ :: zJ :: .int .i64 v0 :: zK (zK (zK (zK (zK (zK []))))), [[.sl none zdP v1, .sl none zdR v2]], []⟩
theorem r21_Great.l0_eq n v0 v1 v2 : r21_Great.l0 (n + 1) v0 v1 v2 =
 (if v0 < (v1.length : Int) then ((lget v1 v0).bind fun b0 =>
 (if (b0.1.size : Int) > 100 then (some true)
 else ((lget v1 v0).bind fun b1 =>
 (if (b1.2.size : Int) > 100 then (some true)
 else (r21_Great.l0 n (IntKind.wrap .i64 (v0 + 1)) v1 v2)))))
 else (r21_Great.l1 n 0 v1 v2)) := by kernel_rfl
theorem r21_Great.l1_eq n v0 v1 v2 : r21_Great.l1 (n + 1) v0 v1 v2 =
 (if v0 < (v2.length : Int) then ((lget v2 v0).bind fun b2 =>
 ((r20_Great.f b2).bind fun b3 =>
 (if b3 = true then (some true)
 else (r21_Great.l1 n (IntKind.wrap .i64 (v0 + 1)) v1 v2))))
 else (some false)) := by kernel_rfl
theorem r21_Great.eq (n : Nat) (a0 : List zP) (a1 : List zR) : call r21_Great.C Tryz.f23 r21_Great.code r21_Great.sg r21_Great.rs n (a0, a1) =
 (if (a0.length : Int) > 300 then (some true)
 else (if (a1.length : Int) > 300 then (some true)
 else (r21_Great.l0 n 0 a0 a1))) := by kernel_rfl
def r21_Great.f (m : RC) : Option Bool := some (greatM m)
theorem r21_Great_l1 (p : List PB) (l : List RU) (hl : l.length ≤ 300) : ∀ (m : List RU) (k i : Nat), l.drop i = m → m.length < k → r21_Great.l1 k (i : Int) p l = some (m.any greatU)
 | [], k, i, hd, hk => by
  obtain ⟨k, rfl⟩ : ∃ m, k = m + 1 := ⟨k - 1, by omega⟩
  have := dropn hd
  rw [r21_Great.l1_eq, if_neg (by omega)]; rfl
 | r :: m, k, i, hd, hk => by
  obtain ⟨k, rfl⟩ : ∃ m, k = m + 1 := ⟨k - 1, by omega⟩
  obtain ⟨h1, h2, h3, h4⟩ := dropc hd
  have hk' : m.length < k := by simp at hk; omega
  rw [r21_Great.l1_eq, if_pos (by omega), h4, Option.bind_some, show r20_Great.f r = some (greatU r) from rfl, Option.bind_some, wrap_succ (by omega), r21_Great_l1 p l hl m k (i + 1) h2 hk', List.any_cons]
  cases greatU r <;> rfl
theorem r21_Great_l0 (p : List PB) (hp : p.length ≤ 300) (l : List RU) (hl : l.length ≤ 300) : ∀ (m : List PB) (k i : Nat), p.drop i = m → m.length + 301 < k → r21_Great.l0 k (i : Int) p l = some ((m.any fun p => decide (100 < p.1.size) || decide (100 < p.2.size)) || l.any greatU)
 | [], k, i, hd, hk => by
  obtain ⟨k, rfl⟩ : ∃ m, k = m + 1 := ⟨k - 1, by omega⟩
  have := dropn hd
  rw [r21_Great.l0_eq, if_neg (by omega)]
  refine (r21_Great_l1 p l hl l k 0 rfl (by simp at hk; omega)).trans ?_
  rfl
 | q :: m, k, i, hd, hk => by
  obtain ⟨k, rfl⟩ : ∃ m, k = m + 1 := ⟨k - 1, by omega⟩
  obtain ⟨h1, h2, h3, h4⟩ := dropc hd
  have hk' : m.length + 301 < k := by simp at hk; omega
  rw [r21_Great.l0_eq, if_pos (by omega), h4, Option.bind_some, Option.bind_some, wrap_succ (by omega), r21_Great_l0 p hp l hl m k (i + 1) h2 hk', List.any_cons]
  by_cases c1 : 100 < q.1.size
  ·rw [if_pos (by omega), decide_eq_true c1]; rfl
  ·rw [if_neg (by omega), decide_eq_false c1, Bool.false_or]
   by_cases c2 : 100 < q.2.size
   ·rw [if_pos (by omega), decide_eq_true c2]; rfl
   ·rw [if_neg (by omega), decide_eq_false c2, Bool.false_or]
noncomputable def r21_Great.c : Con := ⟨23, r21_Great.sg, r21_Great.rs, r21_Great.f⟩
theorem r21_Great.con : ConOk Tryz.prog r21_Great.c := walked (C := r21_Great.C) rfl (by kernel_rfl) (by kernel_rfl) (by kernel_rfl) rfl ⟨r20_Great.con, trivial⟩ fun ⟨p, l⟩ z h => by
 have h : some (greatM (p, l)) = some z := h
 refine ⟨603, ?_⟩
 rw [r21_Great.eq, ← h]
 unfold greatM
 dsimp only
 by_cases c1 : 300 < p.length
 ·rw [if_pos (by omega), decide_eq_true c1]; rfl
 rw [if_neg (by omega), decide_eq_false c1, Bool.false_or]
 by_cases c2 : 300 < l.length
 ·rw [if_pos (by omega), decide_eq_true c2]; rfl
 rw [if_neg (by omega), decide_eq_false c2, Bool.false_or]
 exact r21_Great_l0 p (by omega) l (by omega) p _ 0 rfl (by omega)
theorem okC_of {m : RC} (h : greatM m = false) : okC m ∧ m.1.length ≤ 300 ∧ m.2.length ≤ 300 := by
 unfold greatM at h
 simp only [Bool.or_eq_false_iff, decide_eq_false_iff_not, List.any_eq_false, decide_eq_true_eq] at h
 obtain ⟨h1, h2, h3, h4⟩ := h
 refine ⟨⟨⟨by omega, fun p hp => ?_⟩, by omega, fun r hr => ?_⟩, by omega, by omega⟩
 ·have := h3 p hp
  simp only [Bool.or_eq_true, decide_eq_true_eq, not_or] at this
  omega
 ·have := h4 r hr
  rw [Bool.not_eq_true] at this
  unfold greatU at this
  simp only [Bool.or_eq_false_iff, decide_eq_false_iff_not, List.any_eq_false] at this
  obtain ⟨k1, k2, k3⟩ := this
  refine ⟨by omega, by omega, fun p hp => ?_⟩
  have := k3 p hp
  simp only [Bool.or_eq_true, decide_eq_true_eq, not_or] at this
  omega
theorem r20_Check.run (k0 k1 k2 : Int) (k3 : ByteArray) (l : List PB) (hr : okR (k0, k1, k2, k3, l)) (a1 a2 : Int) (a : List S5) (ha : a.length ≤ 1000000) (b1 b2 : Int) (b : List S5) (hb : b.length ≤ 1000000) :
  call r20_Check.C Tryz.f146 r20_Check.code r20_Check.sg r20_Check.rs (l.length + 1) ((k0, k1, k2, k3, l), (a1, a2, a), b1, b2, b) = some (ruleE (k0, k1, k2, k3, l) a b) := by
 obtain ⟨hr3, hl⟩ := hr
 dsimp only at hr3 hl
 rw [r20_Check.eq]
 unfold ruleE
 dsimp only
 by_cases c0 : k0 < 1 ∨ 5 < k0
 ·rw [if_pos c0, or_two' (k0 < 1) (k0 > 5), decide_eq_true (show k0 < 1 ∨ k0 > 5 from c0), Option.bind_some, if_pos rfl]
 rw [if_neg c0, or_two' (k0 < 1) (k0 > 5), decide_eq_false (show ¬ (k0 < 1 ∨ k0 > 5) from c0), Option.bind_some, if_neg (by simp), r13_Find a1 a2 a ha, Option.bind_some, r13_Find b1 b2 b hb, Option.bind_some]
 have fa := idxS_find k1 a a 0 rfl
 have fb := idxS_find k2 b b 0 rfl
 have e1 : (endsE (k0, k1, k2, k3, l) a b).1 = (findS k1 a).1 := rfl
 have e2 : (endsE (k0, k1, k2, k3, l) a b).2.1 = (findS k2 b).1 := rfl
 have e3 : (endsE (k0, k1, k2, k3, l) a b).2.2 = if (if k0 = 3 then decide (k1 = 0) else (findS k1 a).2) = true ∧ (if k0 = 2 then decide (k2 = 0) else (findS k2 b).2) = true then 0 else 9 := rfl
 rw [e1, e2, e3]
 generalize idxS k1 0 a = i at fa ⊢
 generalize idxS k2 0 b = j at fb ⊢
 have x3 : (if k0 = 3 then (if ¬k1 = 0 then some true else (if ¬k0 = 3 then some (decide (i < 0)) else some false)) else (if ¬k0 = 3 then some (decide (i < 0)) else some false)) = some (!(if k0 = 3 then decide (k1 = 0) else (findS k1 a).2)) := by
  by_cases q : k0 = 3
  ·rw [if_pos q, if_pos q]
   by_cases q2 : k1 = 0
   ·rw [if_neg (not_not_intro q2), if_neg (not_not_intro q), decide_eq_true q2]; rfl
   ·rw [if_pos q2, decide_eq_false q2]; rfl
  ·rw [if_neg q, if_pos q, if_neg q]
   rcases fa with ⟨h1, h2⟩ | ⟨h1, h2, -⟩
   ·rw [decide_eq_true h1, h2]; rfl
   ·rw [decide_eq_false h1, h2]; rfl
 have x4 : (if k0 = 2 then (if ¬k2 = 0 then some true else (if ¬k0 = 2 then some (decide (j < 0)) else some false)) else (if ¬k0 = 2 then some (decide (j < 0)) else some false)) = some (!(if k0 = 2 then decide (k2 = 0) else (findS k2 b).2)) := by
  by_cases q : k0 = 2
  ·rw [if_pos q, if_pos q]
   by_cases q2 : k2 = 0
   ·rw [if_neg (not_not_intro q2), if_neg (not_not_intro q), decide_eq_true q2]; rfl
   ·rw [if_pos q2, decide_eq_false q2]; rfl
  ·rw [if_neg q, if_pos q, if_neg q]
   rcases fb with ⟨h1, h2⟩ | ⟨h1, h2, -⟩
   ·rw [decide_eq_true h1, h2]; rfl
   ·rw [decide_eq_false h1, h2]; rfl
 rw [x3, Option.bind_some]
 by_cases p3 : (if k0 = 3 then decide (k1 = 0) else (findS k1 a).2) = true
 ·rw [p3, if_neg (by simp), x4, Option.bind_some]
  by_cases p4 : (if k0 = 2 then decide (k2 = 0) else (findS k2 b).2) = true
  ·rw [p4, if_neg (by simp), if_pos (⟨rfl, rfl⟩ : true = true ∧ true = true), if_neg (show ¬ (0 : Int) ≠ 0 by decide)]
   have x5 : (if ¬k3 = ByteArray.mk #[] then (if ¬k0 = 3 then some true else (if (l.length : Int) > 0 then some (decide ¬k0 = 5) else some false)) else (if (l.length : Int) > 0 then some (decide ¬k0 = 5) else some false)) = some (decide ((k3 ≠ ByteArray.mk #[] ∧ k0 ≠ 3) ∨ (0 < l.length ∧ k0 ≠ 5))) := by
    have tail : (if (l.length : Int) > 0 then some (decide ¬k0 = 5) else some false) = some (decide (0 < l.length ∧ k0 ≠ 5)) := by
     by_cases q : (l.length : Int) > 0
     ·rw [if_pos q]; congr 1; exact decide_eq_decide.2 ⟨fun h => ⟨by omega, h⟩, fun h => h.2⟩
     ·rw [if_neg q, decide_eq_false (fun h => q (by have := h.1; omega))]
    by_cases q : k3 = ByteArray.mk #[]
    ·rw [if_neg (not_not_intro q), tail]; congr 1; exact decide_eq_decide.2 ⟨.inr, fun h => h.elim (fun h => absurd q h.1) id⟩
    ·rw [if_pos q]
     by_cases q2 : k0 = 3
     ·rw [if_neg (not_not_intro q2), tail]; congr 1; exact decide_eq_decide.2 ⟨.inr, fun h => h.elim (fun h => absurd q2 h.2) id⟩
     ·rw [if_pos q2, decide_eq_true (.inl ⟨q, q2⟩)]
   rw [x5, Option.bind_some]
   by_cases c5 : (k3 ≠ ByteArray.mk #[] ∧ k0 ≠ 3) ∨ (0 < l.length ∧ k0 ≠ 5)
   ·rw [if_pos c5, decide_eq_true c5, if_pos rfl]
   rw [if_neg c5, decide_eq_false c5, if_neg (by simp)]
   have la : k0 ≠ 3 → lget a i = some (findS k1 a).1 := fun q => by
    rw [if_neg q] at p3
    rcases fa with ⟨h1, h2⟩ | ⟨h1, h2, h3⟩
    ·rw [h2] at p3; cases p3
    ·exact h3
   have lb : k0 ≠ 2 → lget b j = some (findS k2 b).1 := fun q => by
    rw [if_neg q] at p4
    rcases fb with ⟨h1, h2⟩ | ⟨h1, h2, h3⟩
    ·rw [h2] at p4; cases p4
    ·exact h3
   by_cases g1 : k0 = 1
   ·rw [if_pos g1, if_pos g1, lb (by omega), Option.bind_some, la (by omega), Option.bind_some, r11_Wider, Option.bind_some]
    by_cases q : wider (findS k2 b).1 (findS k1 a).1 = true
    ·rw [if_neg (not_not_intro q), if_pos q]
    ·rw [if_pos q, if_neg q]
   rw [if_neg g1, if_neg g1]
   by_cases g3 : k0 = 3
   ·obtain ⟨k3, rfl⟩ := ex_sb k3
    rw [size_sb] at hr3
    rw [if_pos g3, if_pos g3, lb (by omega), Option.bind_some]
    generalize (findS k2 b).1 = p
    obtain ⟨p0, p1, p2, p3, p4⟩ := p
    rw [r11_Value _ _ _ _ _ k3 hr3, Option.bind_some, bl_sb]; rfl
   rw [if_neg g3, if_neg g3]
   by_cases g4 : k0 = 4
   ·rw [if_pos g4, if_pos g4, la g3, Option.bind_some, lb (by omega), Option.bind_some]
    generalize (findS k1 a).1 = p
    generalize (findS k2 b).1 = q
    obtain ⟨p0, p1, p2, p3, p4⟩ := p
    obtain ⟨q0, q1, q2, q3, q4⟩ := q
    unfold padded
    dsimp only
    by_cases y1 : p1 = 1
    ·rw [if_neg (not_not_intro y1)]
     by_cases y2 : p2 = 1
     ·rw [if_neg (not_not_intro y2)]
      by_cases y3 : q1 = 1
      ·rw [if_neg (not_not_intro y3), Option.bind_some]
       by_cases y4 : q2 = 1
       ·rw [decide_eq_false (not_not_intro y4), if_neg (by simp), if_pos ⟨by rw [decide_eq_true y1, decide_eq_true y2]; rfl, by rw [decide_eq_true y3, decide_eq_true y4]; rfl⟩]
       ·rw [decide_eq_true y4, if_pos rfl, if_neg (fun h => by have := h.2; rw [decide_eq_false y4] at this; simp at this)]
      ·rw [if_pos y3, Option.bind_some, if_pos rfl, if_neg (fun h => by have := h.2; rw [decide_eq_false y3] at this; simp at this)]
     ·rw [if_pos y2, Option.bind_some, if_pos rfl, if_neg (fun h => by have := h.1; rw [decide_eq_false y2] at this; simp at this)]
    ·rw [if_pos y1, Option.bind_some, if_pos rfl, if_neg (fun h => by have := h.1; rw [decide_eq_false y1] at this; simp at this)]
   rw [if_neg g4, if_neg g4]
   by_cases g5 : k0 = 5
   ·rw [if_pos g5, if_pos g5, r19_Check l hl.1, Option.bind_some, tableE]
    have x6 : (if ¬(pairsE l).1 = 0 then some true else some (decide ((l.length : Int) = 0))) = some (decide ((pairsE l).1 ≠ 0 ∨ l.length = 0)) := by
     rw [or_two']; congr 1; exact decide_eq_decide.2 (or_congr Iff.rfl (by omega))
    rw [x6, Option.bind_some]
    by_cases q : (pairsE l).1 ≠ 0 ∨ l.length = 0
    ·rw [if_pos q, decide_eq_true q, if_pos rfl]
    ·rw [if_neg q, decide_eq_false q, if_neg (by simp)]
     exact r20_Check_l i j k0 k1 k2 k3 l hl a1 a2 a b1 b2 b _ _ (la g3) (lb (by omega)) l _ 0 rfl (by omega)
   ·rw [if_neg g5, if_neg g5]
  ·rw [(Bool.not_eq_true _).mp p4, if_pos (by simp), show (if true = true ∧ false = true then (0 : Int) else 9) = 9 from rfl, if_pos (show (9 : Int) ≠ 0 by decide)]
 ·rw [(Bool.not_eq_true _).mp p3, if_pos (by simp), if_neg (show ¬ (false = true ∧ (if k0 = 2 then decide (k2 = 0) else (findS k2 b).2) = true) from fun h => by cases h.1), if_pos (show (9 : Int) ≠ 0 by decide)]
noncomputable def r20_Check.c : Con := ⟨146, r20_Check.sg, r20_Check.rs, r20_Check.f⟩
theorem r20_Check.con : ConOk Tryz.prog r20_Check.c := walked (C := r20_Check.C) rfl (by kernel_rfl) (by kernel_rfl) (by kernel_rfl) rfl ⟨r13_Find.con, r11_Value.con, r11_Wider.con, r19_Check.con, trivial⟩ fun ⟨⟨k0, k1, k2, k3, l⟩, ⟨a1, a2, a⟩, b1, b2, b⟩ y h => by
 have h : r20_Check.f ((k0, k1, k2, k3, l), (a1, a2, a), b1, b2, b) = some y := h
 unfold r20_Check.f at h
 split at h
 ·rename_i hc
  exact ⟨_, (r20_Check.run k0 k1 k2 k3 l hc.1 a1 a2 a hc.2.1 b1 b2 b hc.2.2).trans h⟩
 ·cases h
@[reducible] def r21_version.sg : List Shp := [.v (.str), .v (.int .i64)]
@[reducible] def r21_version.rs : Rs := .one (.v (.bool))
@[reducible] noncomputable def r21_version.code : Code := Tryz.f143.body.getD .skip
noncomputable def r21_version.C : Ctx := ⟨tab, [r15_Right.c], [], ⟨[], []⟩⟩
theorem r21_version.eq (n : Nat) (a0 : ByteArray) (a1 : Int) : call r21_version.C Tryz.f143 r21_version.code r21_version.sg r21_version.rs n (a0, a1) =
 ((r15_Right.f a0).bind fun b0 =>
 (if b0 = true then ((bget a0 0).bind fun b1 =>
 (some (decide (IntKind.wrap .i64 (IntKind.wrap .i64 (↑(UInt8.toNat b1) : Int) - 48) = a1))))
 else (some false))) := by kernel_rfl
noncomputable def r21_version.f : El (sgTy r21_version.sg) → Option (El r21_version.rs.ty) := fun x => match x with
 | (a0, a1) =>
 ((r15_Right.f a0).bind fun b0 =>
 (if b0 = true then ((bget a0 0).bind fun b1 =>
  (some (decide (IntKind.wrap IntKind.i64 (IntKind.wrap IntKind.i64 (↑(UInt8.toNat b1) : Int) - 48) = a1))))
 else (some false)))
noncomputable def r21_version.c : Con := ⟨143, r21_version.sg, r21_version.rs, r21_version.f⟩
theorem r21_version.con : ConOk Tryz.prog r21_version.c := walked (C := r21_version.C) rfl (by kernel_rfl) (by kernel_rfl) (by kernel_rfl) rfl ⟨r15_Right.con, trivial⟩ fun ⟨a0, a1⟩ y h => ⟨0, (r21_version.eq 0 a0 a1).trans h⟩
theorem r21_version (t : List UInt8) (v : Int) : r21_version.f (sb t, v) = some (right t && decide (version t = v)) := by
 simp only [r21_version.f]
 rw [r15_Right, Option.bind_some]
 cases h : right t with
 | false => rw [if_neg (by simp)]; rfl
 | true =>
  obtain ⟨a, b, c, d, rfl, ha, hb, hc, hd⟩ := four h
  have ha := (dig_iff a).1 ha
  rw [if_pos rfl, show bget (sb [a, b, c, d]) 0 = some a from bget_drop (i := 0) rfl, Option.bind_some, Bool.true_and]
  have := u8_lt a
  rw [wrap_nat (by omega), wrap_id (by omega) (by omega)]; rfl
@[reducible] def r21_twice.sg : List Shp := [.a zdR, .a zdR]
@[reducible] def r21_twice.rs : Rs := .one (.v (.bool))
@[reducible] noncomputable def r21_twice.code : Code := Tryz.f147.body.getD .skip
noncomputable def r21_twice.C : Ctx := ⟨tab, [], [], ⟨[], []⟩⟩
theorem r21_twice.eq (n : Nat) (a0 a1 a2 : Int) (a3 : ByteArray) (a4 : List zP) (a5 a6 a7 : Int) (a8 : ByteArray) (a9 : List zP) : call r21_twice.C Tryz.f147 r21_twice.code r21_twice.sg r21_twice.rs n ((a0, (a1, (a2, (a3, a4)))), (a5, (a6, (a7, (a8, a9))))) =
 (if ¬a1 = 0 then (if a1 = a6 then (some true)
 else (if ¬a2 = 0 then (some (decide (a2 = a7)))
 else (some false)))
 else (if ¬a2 = 0 then (some (decide (a2 = a7)))
 else (some false))) := by kernel_rfl
noncomputable def r21_twice.f : El (sgTy r21_twice.sg) → Option (El r21_twice.rs.ty) := fun x => match x with
 | ((a0, (a1, (a2, (a3, a4)))), (a5, (a6, (a7, (a8, a9))))) =>
 (if ¬a1 = 0 then (if a1 = a6 then (some true)
  else (if ¬a2 = 0 then (some (decide (a2 = a7)))
  else (some false)))
 else (if ¬a2 = 0 then (some (decide (a2 = a7)))
  else (some false)))
noncomputable def r21_twice.c : Con := ⟨147, r21_twice.sg, r21_twice.rs, r21_twice.f⟩
theorem r21_twice.con : ConOk Tryz.prog r21_twice.c := walked (C := r21_twice.C) rfl (by kernel_rfl) (by kernel_rfl) (by kernel_rfl) rfl trivial fun ⟨⟨a0, ⟨a1, ⟨a2, ⟨a3, a4⟩⟩⟩⟩, ⟨a5, ⟨a6, ⟨a7, ⟨a8, a9⟩⟩⟩⟩⟩ y h => ⟨0, (r21_twice.eq 0 a0 a1 a2 a3 a4 a5 a6 a7 a8 a9).trans h⟩
def twiceP (a b : RU) : Bool := (decide (a.2.1 ≠ 0) && decide (a.2.1 = b.2.1)) || (decide (a.2.2.1 ≠ 0) && decide (a.2.2.1 = b.2.2.1))
theorem r21_twice (a b : RU) : r21_twice.f (a, b) = some (twiceP a b) := by
 obtain ⟨a0, a1, a2, a3, a4⟩ := a
 obtain ⟨b0, b1, b2, b3, b4⟩ := b
 simp only [r21_twice.f, twiceP]
 by_cases h1 : a1 = 0
 ·rw [if_neg (not_not_intro h1), decide_eq_false (not_not_intro h1), Bool.false_and, Bool.false_or]
  by_cases h2 : a2 = 0
  ·rw [if_neg (not_not_intro h2), decide_eq_false (not_not_intro h2)]; rfl
  ·rw [if_pos h2, decide_eq_true h2, Bool.true_and]
 ·rw [if_pos h1, decide_eq_true h1, Bool.true_and]
  by_cases h3 : a1 = b1
  ·rw [if_pos h3, decide_eq_true h3, Bool.true_or]
  ·rw [if_neg h3, decide_eq_false h3, Bool.false_or]
   by_cases h2 : a2 = 0
   ·rw [if_neg (not_not_intro h2), decide_eq_false (not_not_intro h2)]; rfl
   ·rw [if_pos h2, decide_eq_true h2, Bool.true_and]
def rulesR (all : List RU) (a b : List S5) : List RU → Nat → Int × Int × Int
 | [], _ => (0, 0, 0)
 | r :: l, i => if ruleE r a b ≠ 0 then (ruleE r a b, 3, (i : Int)) else if (all.take i).any (fun q => twiceP q r) = true then (10, 3, (i : Int)) else rulesR all a b l (i + 1)
def mapR (m : RC) (a b : Int × Int × List S5) : Int × Int × Int :=
 if (schemaE a).1 ≠ 0 then (1, 1, 0) else if (schemaE b).1 ≠ 0 then (1, 1, 1)
 else if 256 < m.1.length then (5, 2, 256)
 else match mtisL a.2.1 b.2.1 m.1 [] 0 with
  | some e => e
  | none => if 256 < m.2.length then (5, 3, 256) else rulesR m.2 a.2.2 b.2.2 m.2 0
def bnd : List RU → Nat
 | [] => 0
 | _ :: m => bnd m + 300
theorem bnd_le : ∀ m : List RU, bnd m ≤ 300 * m.length
 | [] => Nat.le_refl _
 | _ :: m => by have := bnd_le m; rw [bnd, List.length_cons]; omega
@[reducible] def r21_Check.sg : List Shp := [.a zdM, .a zdS, .a zdS]
@[reducible] def r21_Check.rs : Rs := .tup [.v (.int .i64), .v (.int .i64), .v (.int .i64)]
@[reducible] noncomputable def r21_Check.code : Code := Tryz.f112.body.getD .skip
noncomputable def r21_Check.C : Ctx := ⟨tab, [r13_Right.c, r21_version.c, r15_Request.c, r19_Apply.c, r20_Check.c, r21_twice.c], [], ⟨[(8, [3, 4, 5, 9], 3), (19, [3, 4, 5, 13], 3), (25, [3, 4, 5, 13, 15], 3)], []⟩⟩
noncomputable def r21_Check.l0 (n : Nat) (v0 : Int) (v1 : List zP) (v2 : List zR) (v3 v4 : Int) (v5 : List z5) (v6 v7 : Int) (v8 : List z5) : Option ((Int × (Int × Int))) := run r21_Check.C (finOf r21_Check.C Tryz.f112 r21_Check.rs) n (todoAt 8 r21_Check.code) ⟨zJ :: zJ :: zJ :: .ptr 0 0 :: .ptr 1 0 :: .ptr 2 0 :: zJ :: zJ :: zJ :: .int .i64 v0 :: zK (zK (zK (zK (zK (zK (zK (zK (zK (zK (zK (zK (zK [])))))))))))), [[.sl none zdP v1, .sl none zdR v2], [.int .i64 v3, .int .i64 v4, .sl none zd5 v5], [.int .i64 v6, .int .i64 v7, .sl none zd5 v8]], []⟩
noncomputable def r21_Check.l1 (n : Nat) (v0 : Int) (v1 : List zP) (v2 : List zR) (v3 v4 : Int) (v5 : List z5) (v6 v7 : Int) (v8 : List z5) : Option ((Int × (Int × Int))) := run r21_Check.C (finOf r21_Check.C Tryz.f112 r21_Check.rs) n (todoAt 19 r21_Check.code) ⟨zJ :: zJ :: zJ :: .ptr 0 0 :: .ptr 1 0 :: .ptr 2 0 :: zJ :: zJ :: zJ :: zJ :: zJ :: zJ :: zJ :: .int .i64 v0 :: zJ :: zJ :: zJ :: zJ :: zK (zK (zK (zK (zK (zK (zK (zK (zK (zK (zK (zK []))))))))))), [[.sl none zdP v1, .sl none zdR v2], [.int .i64 v3, .int .i64 v4, .sl none zd5 v5], [.int .i64 v6, .int .i64 v7, .sl none zd5 v8]], []⟩
noncomputable def r21_Check.l2 (n : Nat) (v0 v1 : Int) (v2 : List zP) (v3 : List zR) (v4 v5 : Int) (v6 : List z5) (v7 v8 : Int) (v9 : List z5) : Option ((Int × (Int × Int))) := run r21_Check.C (finOf r21_Check.C Tryz.f112 r21_Check.rs) n (todoAt 25 r21_Check.code) ⟨zJ :: zJ :: zJ :: .ptr 0 0 :: .ptr 1 0 :: .ptr 2 0 :: zJ :: zJ :: zJ :: zJ :: zJ :: zJ :: zJ :: .int .i64 v0 :: zJ :: .int .i64 v1 :: zJ :: zJ :: zK (zK (zK (zK (zK (zK (zK (zK (zK (zK (zK (zK []))))))))))), [[.sl none zdP v2, .sl none zdR v3], [.int .i64 v4, .int .i64 v5, .sl none zd5 v6], [.int .i64 v7, .int .i64 v8, .sl none zd5 v9]], []⟩
theorem r21_Check.l0_eq n v0 v1 v2 v3 v4 v5 v6 v7 v8 : r21_Check.l0 (n + 1) v0 v1 v2 v3 v4 v5 v6 v7 v8 =
 (if v0 < (v1.length : Int) then ((lget v1 v0).bind fun b2 =>
 ((r21_version.f (b2.1, v4)).bind fun b3 =>
 (if ¬b3 = true then (some ((7, 2, v0)))
 else ((r21_version.f (b2.2, v7)).bind fun b4 =>
 (if ¬b4 = true then (some ((7, 2, v0)))
 else ((r15_Request.f b2.1).bind fun b5 =>
 ((r15_Request.f b2.2).bind fun b6 =>
 (if ¬decide (b5 = true) = decide (b6 = true) then (some ((7, 2, v0)))
 else ((lsub v1 0 v0).bind fun b7 =>
 ((r19_Apply.f (b7, b2.1)).bind fun b8 =>
 (if b8.2 = true then (some ((10, 2, v0)))
 else (r21_Check.l0 n (IntKind.wrap .i64 (v0 + 1)) v1 v2 v3 v4 v5 v6 v7 v8))))))))))))
 else (if (v2.length : Int) > 256 then (some ((5, 3, 256)))
 else (r21_Check.l1 n 0 v1 v2 v3 v4 v5 v6 v7 v8))) := by kernel_rfl
theorem r21_Check.l1_eq n v0 v1 v2 v3 v4 v5 v6 v7 v8 : r21_Check.l1 (n + 1) v0 v1 v2 v3 v4 v5 v6 v7 v8 =
 (if v0 < (v2.length : Int) then ((lget v2 v0).bind fun b9 =>
 ((r20_Check.f (b9, (v3, v4, v5), v6, v7, v8)).bind fun b10 =>
 (if ¬b10 = 0 then (some ((b10, 3, v0)))
 else (r21_Check.l2 n v0 0 v1 v2 v3 v4 v5 v6 v7 v8))))
 else (some ((0, 0, 0)))) := by kernel_rfl
theorem r21_Check.l2_eq n v0 v1 v2 v3 v4 v5 v6 v7 v8 v9 : r21_Check.l2 (n + 1) v0 v1 v2 v3 v4 v5 v6 v7 v8 v9 =
 (if v1 < v0 then ((lget v3 v1).bind fun b11 =>
 ((lget v3 v0).bind fun b12 =>
 ((r21_twice.f (b11, b12)).bind fun b13 =>
 (if b13 = true then (some ((10, 3, v0)))
 else (r21_Check.l2 n v0 (IntKind.wrap .i64 (v1 + 1)) v2 v3 v4 v5 v6 v7 v8 v9)))))
 else (r21_Check.l1 n (IntKind.wrap .i64 (v0 + 1)) v2 v3 v4 v5 v6 v7 v8 v9)) := by kernel_rfl
theorem r21_Check.eq (n : Nat) (a0 : List zP) (a1 : List zR) (a2 a3 : Int) (a4 : List z5) (a5 a6 : Int) (a7 : List z5) : call r21_Check.C Tryz.f112 r21_Check.code r21_Check.sg r21_Check.rs n ((a0, a1), ((a2, (a3, a4)), (a5, (a6, a7)))) =
 ((r13_Right.f (a2, a3, a4)).bind fun b0 =>
 (if ¬b0 = true then (some ((1, 1, 0)))
 else ((r13_Right.f (a5, a6, a7)).bind fun b1 =>
 (if ¬b1 = true then (some ((1, 1, 1)))
 else (if (a0.length : Int) > 256 then (some ((5, 2, 256)))
 else (r21_Check.l0 n 0 a0 a1 a2 a3 a4 a5 a6 a7)))))) := by kernel_rfl
section
variable (p : List PB) (l : List RU) (hp : okP p) (hl : l.length ≤ 256) (hr : ∀ r ∈ l, okR r) (a1 a2 : Int) (a : List S5) (ha : a.length ≤ 1000000) (b1 b2 : Int) (b : List S5) (hb : b.length ≤ 1000000)
include hl
theorem r21_Check_l2 (i : Nat) (r : RU) (hir : lget l (i : Int) = some r) (N : Nat) (res : Int × Int × Int) (hN : ∀ k, N < k → r21_Check.l1 k ((i + 1 : Nat) : Int) p l a1 a2 a b1 b2 b = some res) : ∀ (m : List RU) (k j : Nat), (l.take i).drop j = m → m.length + N + 1 < k →
  r21_Check.l2 k (i : Int) (j : Int) p l a1 a2 a b1 b2 b = some (if m.any (fun q => twiceP q r) = true then (10, 3, (i : Int)) else res)
 | [], k, j, hd, hk => by
  obtain ⟨k, rfl⟩ : ∃ m, k = m + 1 := ⟨k - 1, by omega⟩
  have := dropn hd
  have hi : i < l.length := by
   unfold lget at hir
   rw [if_pos (by omega), Int.toNat_natCast] at hir
   exact (List.getElem?_eq_some_iff.1 hir).1
  rw [List.length_take] at this
  rw [r21_Check.l2_eq, if_neg (by omega), wrap_succ (by omega), hN k (by simp at hk; omega)]; rfl
 | q :: m, k, j, hd, hk => by
  obtain ⟨k, rfl⟩ : ∃ m, k = m + 1 := ⟨k - 1, by omega⟩
  obtain ⟨h1, h2, h3, -⟩ := dropc hd
  rw [List.length_take] at h1
  have h5 : l[j]'(by omega) = q := by
   have := congrArg (fun z => z[0]?) hd
   simp only [List.getElem?_drop, List.getElem?_take, Nat.add_zero, List.getElem?_cons_zero] at this
   rw [if_pos (by omega), List.getElem?_eq_getElem (by omega)] at this
   exact Option.some.inj this
  rw [r21_Check.l2_eq, if_pos (by omega), lget_nat l j (by omega), h5, Option.bind_some, hir, Option.bind_some, r21_twice, Option.bind_some, wrap_succ (by omega), r21_Check_l2 i r hir N res hN m k (j + 1) h2 (by simp at hk; omega), List.any_cons]
  cases twiceP q r with
  | true => rw [if_pos rfl, Bool.true_or, if_pos rfl]
  | false => rw [if_neg (by simp), Bool.false_or]
include hr ha hb
theorem r21_Check_l1 : ∀ (m : List RU) (k i : Nat), l.drop i = m → bnd m < k → r21_Check.l1 k (i : Int) p l a1 a2 a b1 b2 b = some (rulesR l a b m i)
 | [], k, i, hd, hk => by
  obtain ⟨k, rfl⟩ : ∃ m, k = m + 1 := ⟨k - 1, by omega⟩
  have := dropn hd
  rw [r21_Check.l1_eq, if_neg (by omega)]; rfl
 | r :: m, k, i, hd, hk => by
  obtain ⟨k, rfl⟩ : ∃ m, k = m + 1 := ⟨k - 1, by omega⟩
  obtain ⟨h1, h2, h3, h4⟩ := dropc hd
  have hr1 := hr r (by have := List.drop_subset i l (a := r); rw [hd] at this; exact this (List.mem_cons_self ..))
  rw [bnd] at hk
  rw [r21_Check.l1_eq, if_pos (by omega), h4, Option.bind_some, r20_Check r hr1 a1 a2 a ha b1 b2 b hb, Option.bind_some, rulesR]
  by_cases c : ruleE r a b = 0
  ·rw [if_neg (not_not_intro c), if_neg (not_not_intro c)]
   have e := r21_Check_l2 p l hl a1 a2 a b1 b2 b i r h4 (bnd m) (rulesR l a b m (i + 1)) (fun k hk => r21_Check_l1 m k (i + 1) h2 hk) (l.take i) k 0 rfl (by rw [List.length_take]; omega)
   rw [Int.natCast_zero] at e
   rw [e]
  ·rw [if_pos c, if_pos c]
end
section
variable (p : List PB) (l : List RU) (hp : okP p) (hl : l.length ≤ 100000) (hr : ∀ r ∈ l, okR r) (a1 a2 : Int) (a : List S5) (ha : a.length ≤ 1000000) (b1 b2 : Int) (b : List S5) (hb : b.length ≤ 1000000)
include hl hr ha hb hp
theorem r21_Check_l0 : ∀ (m : List PB) (k i : Nat), p.drop i = m → m.length + 300000 < k → r21_Check.l0 k (i : Int) p l a1 a2 a b1 b2 b = some (match mtisL a2 b2 m ((p.take i).map Prod.fst) i with
  | some e => e
  | none => if 256 < l.length then (5, 3, 256) else rulesR l a b l 0)
 | [], k, i, hd, hk => by
  obtain ⟨k, rfl⟩ : ∃ m, k = m + 1 := ⟨k - 1, by omega⟩
  have := dropn hd
  rw [r21_Check.l0_eq, if_neg (by omega), mtisL]
  dsimp only
  by_cases c : 256 < l.length
  ·rw [if_pos c, if_pos (by omega)]
  rw [if_neg c, if_neg (by omega)]
  exact r21_Check_l1 p l (by omega) hr a1 a2 a ha b1 b2 b hb l k 0 rfl (by have := bnd_le l; simp at hk; omega)
 | x :: m, k, i, hd, hk => by
  obtain ⟨k, rfl⟩ : ∃ m, k = m + 1 := ⟨k - 1, by omega⟩
  obtain ⟨h1, h2, h3, h4⟩ := dropc hd
  have hp1 := hp.1
  obtain ⟨z1, z2⟩ := hp.2 x (by have := List.drop_subset i p (a := x); rw [hd] at this; exact this (List.mem_cons_self ..))
  have tk := take_fst hd
  obtain ⟨x1, x2⟩ := x
  obtain ⟨x1, rfl⟩ := ex_sb x1
  obtain ⟨x2, rfl⟩ := ex_sb x2
  rw [size_sb] at z1 z2
  rw [List.length_cons] at hk
  rw [r21_Check.l0_eq, if_pos (by omega), h4, Option.bind_some]
  dsimp only
  rw [r21_version, Option.bind_some, mtisL]
  unfold typedP
  dsimp only
  rw [bl_sb, bl_sb]
  cases v1 : right x1 with
  | false => rw [Bool.false_and, if_pos (by simp), Bool.false_and, if_pos rfl]
  | true =>
   by_cases w1 : version x1 = a2
   ·rw [decide_eq_true w1, Bool.true_and, if_neg (by simp), r21_version, Option.bind_some]
    cases v2 : right x2 with
    | false => rw [Bool.false_and, if_pos (by simp), Bool.false_and, Bool.true_and, if_pos rfl]
    | true =>
     by_cases w2 : version x2 = b2
     ·rw [decide_eq_true w2, Bool.true_and, if_neg (by simp), r15_Request x1 z1, Option.bind_some, r15_Request x2 z2, Option.bind_some, Bool.true_and, Bool.true_and, Bool.true_and, Bool.true_and]
      by_cases w3 : asks x1 = asks x2
      ·rw [if_neg (not_not_intro (by rw [w3])), decide_eq_true w3, if_neg (by simp), lsub_take p i (by omega), Option.bind_some]
       obtain ⟨z, hz⟩ := r19_Apply (p.take i) (by rw [List.length_take]; omega) (sb x1)
       rw [hz, Option.bind_some, wrap_succ (by omega), r21_Check_l0 m k (i + 1) h2 (by omega), tk]
       by_cases w4 : sb x1 ∈ (p.take i).map Prod.fst
       ·rw [if_pos w4, decide_eq_true w4, if_pos rfl]
       ·rw [if_neg w4, decide_eq_false w4, if_neg (by simp)]
      ·rw [decide_eq_false w3, if_pos rfl, if_pos]
       intro q
       exact w3 (by cases h1 : asks x1 <;> cases h2 : asks x2 <;> rw [h1, h2] at q <;> first | rfl | (simp at q))
     ·rw [decide_eq_false w2, Bool.and_false, if_pos (by simp), Bool.true_and, Bool.true_and, Bool.true_and, Bool.false_and, if_pos rfl]
   ·rw [decide_eq_false w1, Bool.and_false, if_pos (by simp), Bool.true_and, Bool.false_and, Bool.and_false, if_pos rfl]
end
noncomputable def r21_Check.f (x : RC × SC × SC) : Option (Int × Int × Int) := if okC x.1 ∧ x.2.1.2.2.length ≤ 1000000 ∧ x.2.2.2.2.length ≤ 1000000 then some (mapR x.1 x.2.1 x.2.2) else none
theorem r21_Check (m : RC) (hm : okC m) (a b : SC) (ha : a.2.2.length ≤ 1000000) (hb : b.2.2.length ≤ 1000000) : r21_Check.f (m, a, b) = some (mapR m a b) := if_pos ⟨hm, ha, hb⟩
noncomputable def r21_Check.c : Con := ⟨112, r21_Check.sg, r21_Check.rs, r21_Check.f⟩
theorem r21_Check.con : ConOk Tryz.prog r21_Check.c := walked (C := r21_Check.C) rfl (by kernel_rfl) (by kernel_rfl) (by kernel_rfl) rfl ⟨r13_Right.con, r21_version.con, r15_Request.con, r19_Apply.con, r20_Check.con, r21_twice.con, trivial⟩ fun ⟨⟨p, l⟩, ⟨a1, a2, a⟩, b1, b2, b⟩ y h => by
 have h : r21_Check.f ((p, l), (a1, a2, a), b1, b2, b) = some y := h
 unfold r21_Check.f at h
 split at h
 ·rename_i hc
  obtain ⟨⟨hp, hl, hr⟩, ha, hb⟩ := hc
  refine ⟨p.length + 300001, ?_⟩
  rw [r21_Check.eq, ← h, mapR, r13_Right a1 a2 a ha, Option.bind_some]
  by_cases c1 : (schemaE (a1, a2, a)).1 = 0
  ·rw [decide_eq_true c1, if_neg (by simp), if_neg (not_not_intro c1), r13_Right b1 b2 b hb, Option.bind_some]
   by_cases c2 : (schemaE (b1, b2, b)).1 = 0
   ·rw [decide_eq_true c2, if_neg (by simp), if_neg (not_not_intro c2)]
    by_cases c3 : 256 < p.length
    ·rw [if_pos c3, if_pos (by omega)]
    ·rw [if_neg c3, if_neg (by omega)]
     exact r21_Check_l0 p l hp hl hr a1 a2 a ha b1 b2 b hb p _ 0 rfl (by omega)
   ·rw [decide_eq_false c2, if_pos (by simp), if_pos c2]
  ·rw [decide_eq_false c1, if_pos (by simp), if_pos c1]
 ·cases h
theorem fb_zero : fb1 0 = 0 ∧ fb2 0 = 0 := by decide +kernel
theorem free_or {f : Nat × Nat} {n m : Int} (hn : n = 0 ∨ okNo n) (hm : okNo m) (h : fhas f.1 f.2 m = false) (hne : n ≠ 0 → m ≠ n) : fhas (f.1 ||| fb1 n) (f.2 ||| fb2 n) m = false := by
 rcases hn with rfl | hn
 ·rw [fb_zero.1, fb_zero.2, Nat.or_zero, Nat.or_zero]; exact h
 ·rw [has_or hn hm, h, Bool.false_or, decide_eq_false (hne (by unfold okNo at hn; omega))]
theorem and_free {f : Nat × Nat} {n : Int} (hn : n = 0 ∨ okNo n) (h : n ≠ 0 → fhas f.1 f.2 n = false) : f.1 &&& fb1 n = 0 ∧ f.2 &&& fb2 n = 0 := by
 rcases hn with rfl | hn
 ·rw [fb_zero.1, fb_zero.2, Nat.and_zero, Nat.and_zero]; exact ⟨rfl, rfl⟩
 ·exact (bit_free hn).2 (h (by unfold okNo at hn; omega))
def numOk (n : Int) : Prop := n = 0 ∨ okNo n
theorem twiceP_no {q r : RU} (h : twiceP q r = false) : (q.2.1 ≠ 0 → r.2.1 ≠ q.2.1) ∧ (q.2.2.1 ≠ 0 → r.2.2.1 ≠ q.2.2.1) := by
 unfold twiceP at h
 rw [Bool.or_eq_false_iff] at h
 refine ⟨fun h1 e => ?_, fun h1 e => ?_⟩
 ·have := h.1
  rw [decide_eq_true h1, decide_eq_true e.symm] at this; cases this
 ·have := h.2
  rw [decide_eq_true h1, decide_eq_true e.symm] at this; cases this
theorem rulesL_of (a b : List S5) : ∀ (l : List RU) (i : Nat) (f t : Nat × Nat), (∀ r ∈ l, ruleE r a b = 0) → (∀ r ∈ l, numOk r.2.1 ∧ numOk r.2.2.1) → l.Pairwise (fun q r => twiceP q r = false) →
  (∀ r ∈ l, (r.2.1 ≠ 0 → fhas f.1 f.2 r.2.1 = false) ∧ (r.2.2.1 ≠ 0 → fhas t.1 t.2 r.2.2.1 = false)) → (rulesL a b l i f t).1 = 0
 | [], i, f, t, _, _, _, _ => rfl
 | q :: l, i, f, t, h1, h2, h3, h4 => by
  rw [List.pairwise_cons] at h3
  obtain ⟨n1, n2⟩ := h2 q (List.mem_cons_self ..)
  obtain ⟨k1, k2⟩ := h4 q (List.mem_cons_self ..)
  rw [rulesL, if_neg (not_not_intro (h1 q (List.mem_cons_self ..))), if_neg (not_not_intro (and_free n1 k1)), if_neg (not_not_intro (and_free n2 k2))]
  refine rulesL_of a b l (i + 1) _ _ (fun r hr => h1 r (List.mem_cons_of_mem _ hr)) (fun r hr => h2 r (List.mem_cons_of_mem _ hr)) h3.2 fun r hr => ?_
  obtain ⟨m1, m2⟩ := h2 r (List.mem_cons_of_mem _ hr)
  obtain ⟨j1, j2⟩ := h4 r (List.mem_cons_of_mem _ hr)
  obtain ⟨t1, t2⟩ := twiceP_no (h3.1 r hr)
  exact ⟨fun h0 => free_or n1 (m1.resolve_left h0) (j1 h0) t1, fun h0 => free_or n2 (m2.resolve_left h0) (j2 h0) t2⟩
theorem rulesR_ok (all : List RU) (a b : List S5) : ∀ (m : List RU) (i : Nat), all.drop i = m → (rulesR all a b m i).1 = 0 → (∀ r ∈ m, ruleE r a b = 0) ∧ m.Pairwise (fun q r => twiceP q r = false) ∧ ∀ q ∈ all.take i, ∀ r ∈ m, twiceP q r = false
 | [], i, _, _ => ⟨fun r hr => (by cases hr), .nil, fun q _ r hr => by cases hr⟩
 | r :: m, i, hd, h => by
  obtain ⟨h1, h2, h3, h4⟩ := dropc hd
  rw [rulesR] at h
  by_cases c1 : ruleE r a b ≠ 0
  ·rw [if_pos c1] at h; exact absurd h c1
  rw [if_neg c1] at h
  by_cases c2 : (all.take i).any (fun q => twiceP q r) = true
  ·rw [if_pos c2] at h; cases h
  rw [if_neg c2] at h
  obtain ⟨k1, k2, k3⟩ := rulesR_ok all a b m (i + 1) h2 h
  have tk : all.take (i + 1) = all.take i ++ [r] := by
   have : all[i]? = some r := by
    have := congrArg (fun z => z[0]?) hd
    simpa only [List.getElem?_drop, Nat.add_zero, List.getElem?_cons_zero] using this
   rw [List.take_add_one, this]; rfl
  rw [tk] at k3
  rw [Bool.not_eq_true, List.any_eq_false] at c2
  refine ⟨fun q hq => (List.mem_cons.1 hq).elim (fun e => by rw [e]; exact Decidable.not_not.1 c1) (k1 q), .cons (fun q hq => k3 r (List.mem_append_right _ (List.mem_singleton.2 rfl)) q hq) k2, fun q hq x hx => ?_⟩
  rcases List.mem_cons.1 hx with rfl | hx
  ·simpa using c2 q hq
  ·exact k3 q (List.mem_append_left _ hq) x hx
theorem rule_nums {sa va sb' vb : Int} {a b : List S5} (ha : (schemaE (sa, va, a)).1 = 0) (hb : (schemaE (sb', vb, b)).1 = 0) {r : RU} (h : ruleE r a b = 0) : numOk r.2.1 ∧ numOk r.2.2.1 := by
 unfold ruleE at h
 by_cases c1 : r.1 < 1 ∨ 5 < r.1
 ·rw [if_pos c1] at h; cases h
 rw [if_neg c1] at h
 by_cases c2 : (endsE r a b).2.2 ≠ 0
 ·rw [if_pos c2] at h; exact absurd h c2
 unfold endsE at c2
 dsimp only at c2
 by_cases q : (if r.1 = 3 then decide (r.2.1 = 0) else (findS r.2.1 a).2) = true ∧ (if r.1 = 2 then decide (r.2.2.1 = 0) else (findS r.2.2.1 b).2) = true
 ·obtain ⟨q1, q2⟩ := q
  refine ⟨?_, ?_⟩
  ·by_cases k : r.1 = 3
   ·rw [if_pos k, decide_eq_true_eq] at q1; exact .inl q1
   ·rw [if_neg k] at q1
    have := no_of (a := sa) (b := va) ha q1
    exact .inr ⟨by omega, this.2⟩
  ·by_cases k : r.1 = 2
   ·rw [if_pos k, decide_eq_true_eq] at q2; exact .inl q2
   ·rw [if_neg k] at q2
    have := no_of (a := sb') (b := vb) hb q2
    exact .inr ⟨by omega, this.2⟩
 ·rw [if_neg q] at c2; exact absurd (by decide) c2
theorem mapR_zero {m : RC} {a b : SC} (h : (mapR m a b).1 = 0) : (mapE m a b).1 = 0 := by
 unfold mapR at h
 unfold mapE
 by_cases c1 : (schemaE a).1 ≠ 0
 ·rw [if_pos c1] at h; cases h
 rw [if_neg c1] at h ⊢
 by_cases c2 : (schemaE b).1 ≠ 0
 ·rw [if_pos c2] at h; cases h
 rw [if_neg c2] at h ⊢
 by_cases c3 : 256 < m.1.length
 ·rw [if_pos c3] at h; cases h
 rw [if_neg c3] at h ⊢
 have c1 := Decidable.not_not.1 c1
 have c2 := Decidable.not_not.1 c2
 split at h
 ·rename_i e he
  rw [he]; exact h
 ·rename_i he
  rw [he]
  dsimp only
  by_cases c4 : 256 < m.2.length
  ·rw [if_pos c4] at h; cases h
  rw [if_neg c4] at h ⊢
  obtain ⟨k1, k2, -⟩ := rulesR_ok m.2 a.2.2 b.2.2 m.2 0 rfl h
  exact rulesL_of a.2.2 b.2.2 m.2 0 (0, 0) (0, 0) k1 (fun r hr => rule_nums (sa := a.1) (va := a.2.1) (sb' := b.1) (vb := b.2.1) c1 c2 (k1 r hr)) k2 fun r _ => ⟨fun _ => has_none _, fun _ => has_none _⟩
end Go.Proofs.YtkaihbkfobiejaaGreatDoor.Xe
