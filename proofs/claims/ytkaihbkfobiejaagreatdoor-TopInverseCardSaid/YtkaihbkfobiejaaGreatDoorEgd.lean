import Derived.Test.YtkaihbkfobiejaaGreatDoorEgb
import Derived.Test.YtkaihbkfobiejaaGreatDoorNgb
import Derived.Test.YtkaihbkfobiejaaGreatDoorEgc
/- What the program's small functions on styles and forms answer. -/
namespace Go.Proofs.YtkaihbkfobiejaaGreatDoor.Xe
open Go Go.RowKit Go.Proofs.YtkaihbkfobiejaaGreatDoor.Sp
set_option linter.unusedVariables false
set_option linter.unusedSimpArgs false
set_option maxRecDepth 100000
/-! ### prefix_known -/
@[reducible] def prefix_known.sg : List Shp := [.v (.int .i64), .v (.int .i64)]
@[reducible] def prefix_known.rs : Rs := .one (.v (.bool))
@[reducible] noncomputable def prefix_known.code : Code := Tryz.f121.body.getD .skip
noncomputable def prefix_known.C : Ctx := ⟨tab, [prefix_width.c], [], ⟨[], []⟩⟩
theorem prefix_known.eq (n : Nat) (a0 : Int) (a1 : Int) : call prefix_known.C Tryz.f121 prefix_known.code prefix_known.sg prefix_known.rs n (a0, a1) =
  (if a0 = 1 then ((prefix_width.f a1).bind fun b0 =>
   (some (decide (b0 > 0))))
  else (if a0 = 2 then ((prefix_width.f a1).bind fun b1 =>
    (some (decide (b1 > 0))))
   else (some false))) := by kernel_rfl
noncomputable def prefix_known.f : El (sgTy prefix_known.sg) → Option (El prefix_known.rs.ty) := fun x => match x with
  | (a0, a1) =>
  (if a0 = 1 then ((prefix_width.f a1).bind fun b0 =>
   (some (decide (b0 > 0))))
  else (if a0 = 2 then ((prefix_width.f a1).bind fun b1 =>
    (some (decide (b1 > 0))))
   else (some false)))
noncomputable def prefix_known.c : Con := ⟨121, prefix_known.sg, prefix_known.rs, prefix_known.f⟩
theorem prefix_known.con : ConOk Tryz.prog prefix_known.c := walked (C := prefix_known.C) rfl (by kernel_rfl) (by kernel_rfl) (by kernel_rfl) rfl ⟨prefix_width.con, trivial⟩ fun ⟨a0, a1⟩ y h => ⟨0, (prefix_known.eq 0 a0 a1).trans h⟩
theorem prefix_known (s f : Int) : prefix_known.f (s, f) = some (preOk s f) := by
  simp only [prefix_known.f, prefix_width.f, Option.bind_some, preOk]
  by_cases h : s = 1
  · rw [if_pos h]
    congr 1; rw [decide_eq_decide]; split <;> omega
  · rw [if_neg h]
    by_cases h' : s = 2
    · rw [if_pos h']
      congr 1; rw [decide_eq_decide]; split <;> omega
    · rw [if_neg h', decide_eq_false (by omega)]
/-! ### cell_known -/
@[reducible] def cell_known.sg : List Shp := [.v (.int .i64)]
@[reducible] def cell_known.rs : Rs := .one (.v (.bool))
@[reducible] noncomputable def cell_known.code : Code := Tryz.f86.body.getD .skip
noncomputable def cell_known.C : Ctx := ⟨tab, [], [], ⟨[], []⟩⟩
theorem cell_known.eq (n : Nat) (a0 : Int) : call cell_known.C Tryz.f86 cell_known.code cell_known.sg cell_known.rs n a0 =
  (if a0 = 1 then (some true)
  else (some (decide (a0 = 2)))) := by kernel_rfl
noncomputable def cell_known.f : El (sgTy cell_known.sg) → Option (El cell_known.rs.ty) := fun x => match x with
  | a0 =>
  (if a0 = 1 then (some true)
  else (some (decide (a0 = 2))))
noncomputable def cell_known.c : Con := ⟨86, cell_known.sg, cell_known.rs, cell_known.f⟩
theorem cell_known.con : ConOk Tryz.prog cell_known.c := walked (C := cell_known.C) rfl (by kernel_rfl) (by kernel_rfl) (by kernel_rfl) rfl trivial fun a0 y h => ⟨0, (cell_known.eq 0 a0).trans h⟩
theorem cell_known (st : Int) : cell_known.f st = some (decide (st = 1 ∨ st = 2)) := by
  simp only [cell_known.f]
  by_cases h1 : st = 1
  · simp [h1]
  · by_cases h2 : st = 2 <;> simp [h1, h2]
/-! ### cell_how -/
@[reducible] def cell_how.sg : List Shp := [.v (.int .i64), .v (.int .i64)]
@[reducible] def cell_how.rs : Rs := .one (.v (.int .i64))
@[reducible] noncomputable def cell_how.code : Code := Tryz.f88.body.getD .skip
noncomputable def cell_how.C : Ctx := ⟨tab, [], [], ⟨[], []⟩⟩
theorem cell_how.eq (n : Nat) (a0 : Int) (a1 : Int) : call cell_how.C Tryz.f88 cell_how.code cell_how.sg cell_how.rs n (a0, a1) =
  (if a0 = 2 then (if a1 = 1 then (some 1)
   else (if a0 = 1 then (if a1 = 5 then (some 2)
     else (if a1 = 6 then (some 2)
      else (some 0)))
    else (some 0)))
  else (if a0 = 1 then (if a1 = 5 then (some 2)
    else (if a1 = 6 then (some 2)
     else (some 0)))
   else (some 0))) := by kernel_rfl
noncomputable def cell_how.f : El (sgTy cell_how.sg) → Option (El cell_how.rs.ty) := fun x => match x with
  | (a0, a1) =>
  (if a0 = 2 then (if a1 = 1 then (some 1)
   else (if a0 = 1 then (if a1 = 5 then (some 2)
     else (if a1 = 6 then (some 2)
      else (some 0)))
    else (some 0)))
  else (if a0 = 1 then (if a1 = 5 then (some 2)
    else (if a1 = 6 then (some 2)
     else (some 0)))
   else (some 0)))
noncomputable def cell_how.c : Con := ⟨88, cell_how.sg, cell_how.rs, cell_how.f⟩
theorem cell_how.con : ConOk Tryz.prog cell_how.c := walked (C := cell_how.C) rfl (by kernel_rfl) (by kernel_rfl) (by kernel_rfl) rfl trivial fun ⟨a0, a1⟩ y h => ⟨0, (cell_how.eq 0 a0 a1).trans h⟩
theorem cell_how (st c : Int) : cell_how.f (st, c) = some (if st = 2 ∧ c = 1 then 1 else if st = 1 ∧ (c = 5 ∨ c = 6) then 2 else 0) := by
  simp only [cell_how.f]
  by_cases h1 : st = 2
  · subst h1
    by_cases h2 : c = 1 <;> simp [h2]
  · by_cases h3 : st = 1
    · subst h3
      by_cases h4 : c = 5
      · simp [h4]
      · by_cases h5 : c = 6 <;> simp [h4, h5]
    · simp [h1, h3]
end Go.Proofs.YtkaihbkfobiejaaGreatDoor.Xe

/- What the program's functions that put numbers and lengths answer. -/
namespace Go.Proofs.YtkaihbkfobiejaaGreatDoor.Xe
open Go Go.RowKit Go.Proofs.YtkaihbkfobiejaaGreatDoor.Sp
set_option linter.unusedVariables false
set_option linter.unusedSimpArgs false
set_option maxRecDepth 100000
theorem putB {n : Nat} (h : n < 10) : IntKind.wrap .u8 (IntKind.wrap .i64 (48 + Int.tmod ((n : Nat) : Int) 10)) = ((48 + n : Nat) : Int) := by
  rw [show Int.tmod ((n : Nat) : Int) 10 = ((n % 10 : Nat) : Int) from tmod_nat n 10, Nat.mod_eq_of_lt h, wrap_id (by omega) (by omega)]
  show (if (false && decide ((48 + (n : Int)) % 256 ≥ 128)) = true then (48 + (n : Int)) % 256 - 256 else (48 + (n : Int)) % 256) = _
  simp only [Bool.false_and, Bool.false_eq_true, if_false]; omega
theorem digs_cons : ∀ (j n : Nat), digs (j + 1) n = u8 (48 + n / 10 ^ j % 10) :: digs j n
  | 0, n => by simp [digs]
  | j + 1, n => by
    rw [digs, digs_cons j (n / 10), digs, Nat.div_div_eq_div_mul, Nat.mul_comm 10, ← Nat.pow_succ]; rfl
theorem set_rep (a : Nat) (l : List Int) (x : Int) : (List.replicate (a + 1) 0 ++ l).set a x = List.replicate a 0 ++ x :: l := by
  rw [List.replicate_succ', List.append_assoc, List.set_append_right _ _ (by simp)]
  simp
/-! ### digits_Put -/
@[reducible] def digits_Put.sg : List Shp := [.v (.int .i64), .v (.int .i64)]
@[reducible] def digits_Put.rs : Rs := .tup [.v (.str), .v (.bool)]
@[reducible] noncomputable def digits_Put.code : Code := Tryz.f122.body.getD .skip
noncomputable def digits_Put.C : Ctx := ⟨tab, [], [], ⟨[(5, [0, 6, 7], 1)], []⟩⟩
noncomputable def digits_Put.l0 (n : Nat) (v0 : Int) (v1 : Nat) (v2 : Int) (v3 : List Int) : Option ((ByteArray × Bool)) := run digits_Put.C (finOf digits_Put.C Tryz.f122 digits_Put.rs) n (todoAt 5 digits_Put.code) ⟨[.int .i64 v0, .junk, .junk, .junk, .junk, .junk, .ms 0 1 0 v1, .int .i64 v2, .junk, .junk, .junk, .junk, .junk, .junk, .junk, .junk, .junk, .junk, .junk, .junk, .junk, .junk, .junk, .junk, .junk, .junk, .junk, .junk, .junk, .junk, .junk, .junk, .junk, .junk, .junk, .junk, .junk, .junk, .junk], [[.row (.int .u8) v3]], []⟩
-- the loop at region 5
theorem digits_Put.l0_eq (n : Nat) (v0 : Int) (v1 : Nat) (v2 : Int) (v3 : List Int) : digits_Put.l0 (n + 1) v0 v1 v2 v3 =
  (if v2 ≥ 0 then (if 0 ≤ v2 ∧ v2 < (↑v1 : Int) then ((lset v3 (0 + Int.toNat v2) (IntKind.wrap IntKind.u8 (IntKind.wrap IntKind.i64 (48 + Int.tmod v0 10)))).bind fun b0 =>
    (digits_Put.l0 n (IntKind.wrap IntKind.i64 (Int.tdiv v0 10)) v1 (IntKind.wrap IntKind.i64 (v2 - 1)) b0))
   else none)
  else (if v0 > 0 then (some ((ByteArray.mk #[], false)))
   else ((lpart v3 0 v1).bind fun b1 =>
    (some ((bytesOf b1, true)))))) := by kernel_rfl
theorem digits_Put.eq (n : Nat) (a0 : Int) (a1 : Int) : call digits_Put.C Tryz.f122 digits_Put.code digits_Put.sg digits_Put.rs n (a0, a1) =
  (if a0 < 0 then (some ((ByteArray.mk #[], false)))
  else (if a1 < 1 then (some ((ByteArray.mk #[], false)))
   else (if a1 > 18 then (some ((ByteArray.mk #[], false)))
    else (if 0 ≤ a1 ∧ 1 * a1 ≤ 281474976710656 then (digits_Put.l0 n a0 (Int.toNat a1) (IntKind.wrap IntKind.i64 (a1 - 1)) (List.replicate (Int.toNat a1) 0))
     else none)))) := by kernel_rfl
def digits_Put.f (x : Int × Int) : Option (ByteArray × Bool) := if -9223372036854775808 ≤ x.1 ∧ x.1 ≤ 9223372036854775807 then some (putNum x.1 x.2) else none
theorem digits_Put (n w : Int) (h1 : -9223372036854775808 ≤ n) (h2 : n ≤ 9223372036854775807) : digits_Put.f (n, w) = some (putNum n w) := if_pos ⟨h1, h2⟩
theorem digits_Put_l (n w : Nat) (hn : n ≤ 9223372036854775807) (hw : w ≤ 18) : ∀ (d k j : Nat), j + d = w → d < k → digits_Put.l0 k ((n / 10 ^ j : Nat) : Int) w ((d : Int) - 1) (List.replicate d 0 ++ ints (digs j n)) = some (if n < 10 ^ w then (sb (digs w n), true) else (sb [], false))
  | 0, k, j, hj, hk => by
    obtain ⟨k, rfl⟩ : ∃ m, k = m + 1 := ⟨k - 1, by omega⟩
    obtain rfl : j = w := by omega
    rw [digits_Put.l0_eq, if_neg (by omega)]
    by_cases c : n < 10 ^ j
    · have hl : (ints (digs j n)).length = j := by rw [ints_length, digs_length]
      rw [if_pos c, Nat.div_eq_of_lt c, if_neg (by simp), List.replicate_zero, List.nil_append]
      unfold lpart
      rw [if_pos (by omega), Option.bind_some, List.drop_zero, List.take_of_length_le (by omega), str_ints]
    · have : ¬ n / 10 ^ j = 0 := fun e => c ((Nat.div_eq_zero_iff_lt (Nat.pow_pos (by decide))).1 e)
      rw [if_neg c, if_pos (show ((n / 10 ^ j : Nat) : Int) > 0 from Int.natCast_pos.2 (Nat.pos_of_ne_zero this))]; rfl
  | d + 1, k, j, hj, hk => by
    obtain ⟨k, rfl⟩ : ∃ m, k = m + 1 := ⟨k - 1, by omega⟩
    have ih := digits_Put_l n w hn hw d k (j + 1) (by omega) (by omega)
    have hq : n / 10 ^ j ≤ n := Nat.div_le_self ..
    have e1 : n / 10 ^ (j + 1) = n / 10 ^ j / 10 := by rw [Nat.pow_succ, Nat.div_div_eq_div_mul]
    have hl : (ints (digs j n)).length = j := by rw [ints_length, digs_length]
    rw [e1, digs_cons] at ih
    have hd : (((d + 1 : Nat) : Int) - 1) = (d : Int) := by omega
    generalize n / 10 ^ j = q at *
    have t1 : Int.tmod (q : Int) 10 = (((q % 10) % 10 : Nat) : Int) := by rw [Nat.mod_mod]; exact tmod_nat q 10
    have t2 : Int.tdiv (q : Int) 10 = ((q / 10 : Nat) : Int) := tdiv_nat q 10
    have t3 : IntKind.wrap .u8 (IntKind.wrap .i64 (48 + Int.tmod (q : Int) 10)) = ((48 + q % 10 : Nat) : Int) := by
      have := putB (n := q % 10) (Nat.mod_lt _ (by decide))
      rw [show Int.tmod ((q % 10 : Nat) : Int) 10 = (((q % 10) % 10 : Nat) : Int) from tmod_nat (q % 10) 10] at this
      rw [t1]; exact this
    have hs : lset (List.replicate (d + 1) 0 ++ ints (digs j n)) (0 + Int.toNat (d : Int)) ((48 + q % 10 : Nat) : Int) = some (List.replicate d 0 ++ ((48 + q % 10 : Nat) : Int) :: ints (digs j n)) := by
      unfold lset
      rw [Nat.zero_add, Int.toNat_natCast, if_pos (by rw [List.length_append, List.length_replicate]; omega), set_rep]
    rw [digits_Put.l0_eq, hd, if_pos (by omega), if_pos (by omega), t3, hs, Option.bind_some, t2, wrap_nat (by omega), wrap_id (by omega) (by omega)]
    have e2 : ints (u8 (48 + q % 10) :: digs j n) = ((48 + q % 10 : Nat) : Int) :: ints (digs j n) := by
      show ((u8 (48 + q % 10)).toNat : Int) :: _ = _
      rw [u8_toNat _ (by omega)]; rfl
    rw [e2] at ih
    exact ih
theorem digits_Put.run (n w : Int) (h1 : -9223372036854775808 ≤ n) (h2 : n ≤ 9223372036854775807) : call digits_Put.C Tryz.f122 digits_Put.code digits_Put.sg digits_Put.rs 19 (n, w) = some (putNum n w) := by
  rw [digits_Put.eq]
  unfold putNum
  by_cases c1 : n < 0
  · rw [if_pos c1, if_pos (.inl c1)]; rfl
  rw [if_neg c1]
  by_cases c2 : w < 1
  · rw [if_pos c2, if_pos (.inr (.inl c2))]; rfl
  rw [if_neg c2]
  by_cases c3 : w > 18
  · rw [if_pos c3, if_pos (.inr (.inr (.inl c3)))]; rfl
  obtain ⟨a, rfl⟩ := Int.eq_ofNat_of_zero_le (show 0 ≤ n by omega)
  obtain ⟨b, rfl⟩ := Int.eq_ofNat_of_zero_le (show 0 ≤ w by omega)
  rw [if_neg c3, if_pos (by omega), Int.toNat_natCast, Int.toNat_natCast, wrap_id (by omega) (by omega)]
  have r := digits_Put_l a b (by omega) (by omega) b 19 0 (by omega) (by omega)
  rw [Nat.pow_zero, Nat.div_one, show ints (digs 0 a) = [] from rfl, List.append_nil] at r
  rw [r]
  congr 1
  by_cases c4 : a < 10 ^ b
  · rw [if_pos c4, if_neg (fun q => q.elim (by omega) fun q => q.elim (by omega) fun q => q.elim (by omega) fun q => q c4)]
  · rw [if_neg c4, if_pos (.inr (.inr (.inr c4)))]
noncomputable def digits_Put.c : Con := ⟨122, digits_Put.sg, digits_Put.rs, digits_Put.f⟩
theorem digits_Put.con : ConOk Tryz.prog digits_Put.c := walked (C := digits_Put.C) rfl (by kernel_rfl) (by kernel_rfl) (by kernel_rfl) rfl trivial fun (x : Int × Int) y h => by
  obtain ⟨n, w⟩ := x
  have h : digits_Put.f (n, w) = some y := h
  unfold digits_Put.f at h
  split at h
  · rename_i hc
    exact ⟨19, (digits_Put.run n w hc.1 hc.2).trans h⟩
  · cases h
/-! ### prefix_Put -/
@[reducible] def prefix_Put.sg : List Shp := [.v (.int .i64), .v (.int .i64), .v (.int .i64)]
@[reducible] def prefix_Put.rs : Rs := .tup [.v (.str), .v (.int .i64)]
@[reducible] noncomputable def prefix_Put.code : Code := Tryz.f87.body.getD .skip
noncomputable def prefix_Put.C : Ctx := ⟨tab, [bcd_Put.c, prefix_known.c, digits_Put.c, prefix_width.c], [], ⟨[], []⟩⟩
theorem prefix_Put.eq (n : Nat) (a0 : Int) (a1 : Int) (a2 : Int) : call prefix_Put.C Tryz.f87 prefix_Put.code prefix_Put.sg prefix_Put.rs n (a0, (a1, a2)) =
  ((prefix_known.f (a0, a1)).bind fun b0 =>
  (if ¬b0 = true then (some ((ByteArray.mk #[], 1)))
  else ((prefix_width.f a1).bind fun b1 =>
   ((digits_Put.f (a2, b1)).bind fun b2 =>
   (if ¬Prod.snd b2 = true then (some ((ByteArray.mk #[], 5)))
   else (if a0 = 2 then ((bcd_Put.f (Prod.fst b2)).bind fun b3 =>
     (some ((Prod.fst b3, 0))))
    else (some ((Prod.fst b2, 0))))))))) := by kernel_rfl
noncomputable def prefix_Put.f : El (sgTy prefix_Put.sg) → Option (El prefix_Put.rs.ty) := fun x => match x with
  | (a0, (a1, a2)) =>
  ((prefix_known.f (a0, a1)).bind fun b0 =>
  (if ¬b0 = true then (some ((ByteArray.mk #[], 1)))
  else ((prefix_width.f a1).bind fun b1 =>
   ((digits_Put.f (a2, b1)).bind fun b2 =>
   (if ¬Prod.snd b2 = true then (some ((ByteArray.mk #[], 5)))
   else (if a0 = 2 then ((bcd_Put.f (Prod.fst b2)).bind fun b3 =>
     (some ((Prod.fst b3, 0))))
    else (some ((Prod.fst b2, 0)))))))))
noncomputable def prefix_Put.c : Con := ⟨87, prefix_Put.sg, prefix_Put.rs, prefix_Put.f⟩
theorem prefix_Put.con : ConOk Tryz.prog prefix_Put.c := walked (C := prefix_Put.C) rfl (by kernel_rfl) (by kernel_rfl) (by kernel_rfl) rfl ⟨bcd_Put.con, prefix_known.con, digits_Put.con, prefix_width.con, trivial⟩ fun ⟨a0, ⟨a1, a2⟩⟩ y h => ⟨0, (prefix_Put.eq 0 a0 a1 a2).trans h⟩
theorem prefix_Put (s f n : Int) (h1 : -9223372036854775808 ≤ n) (h2 : n ≤ 9223372036854775807) : prefix_Put.f (s, f, n) = some (sb (prePut s f n).1, (prePut s f n).2) := by
  simp only [prefix_Put.f]
  rw [prefix_known, Option.bind_some]
  unfold prePut
  by_cases c : preOk s f = true
  · have hf := (preOk_iff c).2
    have hw : prefix_width.f f = some f := by unfold prefix_width.f; rw [if_pos hf]
    rw [if_neg (not_not_intro c), if_pos c, hw, Option.bind_some, digits_Put n f h1 h2, Option.bind_some]
    by_cases c2 : (putNum n f).2 = true
    · rw [if_neg (not_not_intro c2), if_pos c2]
      by_cases c3 : s = 2
      · rw [if_pos c3, if_pos c3]
        have e := bcd_Put (bl (putNum n f).1)
        rw [sb_bl] at e
        rw [e, Option.bind_some]
      · rw [if_neg c3, if_neg c3, sb_bl]
    · rw [if_pos c2, if_neg c2]; rfl
  · rw [if_pos c, if_neg c]; rfl
end Go.Proofs.YtkaihbkfobiejaaGreatDoor.Xe
