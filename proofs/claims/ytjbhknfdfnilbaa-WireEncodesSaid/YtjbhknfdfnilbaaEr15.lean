/- What the reference's functions on numbers in digits and on MTIs answer. -/
import Derived.Test.YtjbhknfdfnilbaaEr13
namespace Go.Proofs.Ytjbhknfdfnilbaa.Xe
open Go Go.RowKit Go.Proofs.Ytjbhknfdfnilbaa.Sp
set_option linter.unusedVariables false
set_option linter.unusedSimpArgs false
set_option maxRecDepth 100000
/-! ### groatref01_Get -/
@[reducible] def groatref01_Get.sg : List Shp := [.v (.str)]
@[reducible] def groatref01_Get.rs : Rs := .tup [.v (.int .i64), .v (.bool)]
@[reducible] noncomputable def groatref01_Get.code : Code := Try.f119.body.getD .skip
noncomputable def groatref01_Get.C : Ctx := ⟨tab, [groatref01_All.c], [], ⟨[(5, [0, 4, 5], 0)], []⟩⟩
noncomputable def groatref01_Get.l0 (n : Nat) (v0 : ByteArray) (v1 : Int) (v2 : Int) : Option ((Int × Bool)) := run groatref01_Get.C (finOf groatref01_Get.C Try.f119 groatref01_Get.rs) n (todoAt 5 groatref01_Get.code) ⟨[.str v0, .junk, .junk, .junk, .int .i64 v1, .int .i64 v2, .junk, .junk, .junk, .junk, .junk, .junk, .junk, .junk, .junk, .junk, .junk, .junk, .junk, .junk, .junk, .junk, .junk, .junk, .junk, .junk, .junk, .junk, .junk, .junk, .junk, .junk, .junk, .junk], [], []⟩
-- the loop at region 5
theorem groatref01_Get.l0_eq (n : Nat) (v0 : ByteArray) (v1 : Int) (v2 : Int) : groatref01_Get.l0 (n + 1) v0 v1 v2 =
  (if v2 < (↑(ByteArray.size v0) : Int) then ((bget v0 v2).bind fun b1 =>
   (groatref01_Get.l0 n v0 (IntKind.wrap IntKind.i64 (IntKind.wrap IntKind.i64 (IntKind.wrap IntKind.i64 (10 * v1) + IntKind.wrap IntKind.i64 (↑(UInt8.toNat b1) : Int)) - 48)) (IntKind.wrap IntKind.i64 (v2 + 1))))
  else (some ((v1, true)))) := by kernel_rfl
theorem groatref01_Get.eq (n : Nat) (a0 : ByteArray) : call groatref01_Get.C Try.f119 groatref01_Get.code groatref01_Get.sg groatref01_Get.rs n a0 =
  (if (↑(ByteArray.size a0) : Int) < 1 then (some ((0, false)))
  else (if (↑(ByteArray.size a0) : Int) > 18 then (some ((0, false)))
   else ((groatref01_All.f a0).bind fun b0 =>
    (if ¬b0 = true then (some ((0, false)))
    else (groatref01_Get.l0 n a0 0 0))))) := by kernel_rfl
def groatref01_Get.f (s : ByteArray) : Option (Int × Bool) := if s.size ≤ 1000000000000 then some (getNum (bl s)) else none
theorem groatref01_Get (l : List UInt8) (hl : l.length ≤ 1000000000000) : groatref01_Get.f (sb l) = some (getNum l) := by
  unfold groatref01_Get.f
  rw [if_pos (by rw [size_sb]; exact hl), bl_sb]
theorem groatref01_Get_l (l : List UInt8) (hl : l.length ≤ 18) : ∀ (m : List UInt8) (i k n : Nat), l.drop i = m → m.all dig = true → n < 10 ^ i → m.length < k → groatref01_Get.l0 k (sb l) (n : Int) i = some (((numFrom n m : Nat) : Int), true)
  | [], i, k, n, hd, ha, hn, hk => by
    obtain ⟨k, rfl⟩ : ∃ m, k = m + 1 := ⟨k - 1, by omega⟩
    have := dropn hd
    rw [groatref01_Get.l0_eq, if_neg (by rw [size_sb]; omega)]; rfl
  | a :: m, i, k, n, hd, ha, hn, hk => by
    obtain ⟨k, rfl⟩ : ∃ m, k = m + 1 := ⟨k - 1, by omega⟩
    obtain ⟨h1, h2, h3, -⟩ := dropc hd
    have hk' : m.length < k := by simp at hk; omega
    rw [List.all_cons, Bool.and_eq_true] at ha
    have hdg := (dig_iff a).1 ha.1
    have hp : 10 ^ i ≤ 10 ^ 17 := Nat.pow_le_pow_right (by decide) (by omega)
    have hp2 : 10 ^ (i + 1) = 10 * 10 ^ i := by rw [Nat.pow_succ, Nat.mul_comm]
    rw [show (10 : Nat) ^ 17 = 100000000000000000 from rfl] at hp
    have w : IntKind.wrap .i64 (IntKind.wrap .i64 (IntKind.wrap .i64 (10 * (n : Int)) + IntKind.wrap .i64 (a.toNat : Int)) - 48) = ((10 * n + (a.toNat - 48) : Nat) : Int) := by
      rw [wrap_nat (n := a.toNat) (by omega), wrap_id (x := 10 * (n : Int)) (by omega) (by omega), wrap_id (x := 10 * (n : Int) + (a.toNat : Int)) (by omega) (by omega), wrap_id (by omega) (by omega)]; omega
    rw [groatref01_Get.l0_eq, if_pos (by rw [size_sb]; omega), bget_drop hd, Option.bind_some, w, wrap_succ (by omega)]
    exact groatref01_Get_l l hl m (i + 1) k _ h2 ha.2 (by omega) hk'
theorem groatref01_Get.run (l : List UInt8) (hl : l.length ≤ 1000000000000) : call groatref01_Get.C Try.f119 groatref01_Get.code groatref01_Get.sg groatref01_Get.rs 20 (sb l) = some (getNum l) := by
  rw [groatref01_Get.eq, size_sb]
  unfold getNum
  by_cases h1 : (l.length : Int) < 1
  · rw [if_pos h1, if_pos (.inl (by omega))]
  rw [if_neg h1]
  by_cases h2 : (l.length : Int) > 18
  · rw [if_pos h2, if_pos (.inr (.inl (by omega)))]
  rw [if_neg h2, groatref01_All l hl, Option.bind_some]
  by_cases h3 : l.all dig = true
  · rw [if_neg (not_not_intro h3), if_neg (show ¬ (l.length < 1 ∨ 18 < l.length ∨ l.all dig = false) from fun q => q.elim (by omega) fun q => q.elim (by omega) fun q => by rw [h3] at q; cases q)]
    exact groatref01_Get_l l (by omega) l 0 20 0 rfl h3 (by decide) (by omega)
  · rw [if_pos h3, if_pos (.inr (.inr (by simpa using h3)))]
noncomputable def groatref01_Get.c : Con := ⟨119, groatref01_Get.sg, groatref01_Get.rs, groatref01_Get.f⟩
theorem groatref01_Get.con : ConOk Try.prog groatref01_Get.c := walked (C := groatref01_Get.C) rfl (by kernel_rfl) (by kernel_rfl) (by kernel_rfl) rfl ⟨groatref01_All.con, trivial⟩ fun s y h => by
  obtain ⟨l, rfl⟩ := ex_sb s
  have h : groatref01_Get.f (sb l) = some y := h
  unfold groatref01_Get.f at h
  split at h
  · rename_i hc
    rw [size_sb] at hc
    rw [bl_sb] at h
    exact ⟨20, (groatref01_Get.run l hc).trans h⟩
  · cases h
theorem wrap_b {n : Nat} (h : n < 256) : IntKind.wrap .u8 (n : Int) = n := by
  show (if (false && decide ((n : Int) % 256 ≥ 128)) = true then (n : Int) % 256 - 256 else (n : Int) % 256) = _
  simp only [Bool.false_and, Bool.false_eq_true, if_false]; omega
theorem digs_front : ∀ (j n : Nat), digs (j + 1) n = u8 (48 + n / 10 ^ j % 10) :: digs j n
  | 0, n => by simp [digs]
  | j + 1, n => by
    rw [digs, digs_front j (n / 10), digs, Nat.div_div_eq_div_mul, Nat.mul_comm 10, ← Nat.pow_succ]; rfl
/-! ### groatref01_Put -/
@[reducible] def groatref01_Put.sg : List Shp := [.v (.int .i64), .v (.int .i64)]
@[reducible] def groatref01_Put.rs : Rs := .tup [.v (.str), .v (.bool)]
@[reducible] noncomputable def groatref01_Put.code : Code := Try.f114.body.getD .skip
noncomputable def groatref01_Put.C : Ctx := ⟨tab, [], [], ⟨[(5, [0, 1, 6, 7], 0)], []⟩⟩
noncomputable def groatref01_Put.l0 (n : Nat) (v0 : Int) (v1 : Int) (v2 : ByteArray) (v3 : Int) : Option ((ByteArray × Bool)) := run groatref01_Put.C (finOf groatref01_Put.C Try.f114 groatref01_Put.rs) n (todoAt 5 groatref01_Put.code) ⟨[.int .i64 v0, .int .i64 v1, .junk, .junk, .junk, .junk, .str v2, .int .i64 v3, .junk, .junk, .junk, .junk, .junk, .junk, .junk, .junk, .junk, .junk, .junk, .junk, .junk, .junk, .junk, .junk, .junk, .junk, .junk, .junk, .junk, .junk, .junk, .junk, .junk, .junk, .junk, .junk], [], []⟩
-- the loop at region 5
theorem groatref01_Put.l0_eq (n : Nat) (v0 : Int) (v1 : Int) (v2 : ByteArray) (v3 : Int) : groatref01_Put.l0 (n + 1) v0 v1 v2 v3 =
  (if v3 < v1 then ((scat (bytesOf [IntKind.wrap IntKind.u8 (IntKind.wrap IntKind.i64 (48 + Int.tmod v0 10))]) v2).bind fun b0 =>
   (groatref01_Put.l0 n (IntKind.wrap IntKind.i64 (Int.tdiv v0 10)) v1 b0 (IntKind.wrap IntKind.i64 (v3 + 1))))
  else (if ¬v0 = 0 then (some ((ByteArray.mk #[], false)))
   else (some ((v2, true))))) := by kernel_rfl
theorem groatref01_Put.eq (n : Nat) (a0 : Int) (a1 : Int) : call groatref01_Put.C Try.f114 groatref01_Put.code groatref01_Put.sg groatref01_Put.rs n (a0, a1) =
  (if a0 < 0 then (some ((ByteArray.mk #[], false)))
  else (if a1 < 1 then (some ((ByteArray.mk #[], false)))
   else (if a1 > 18 then (some ((ByteArray.mk #[], false)))
    else (groatref01_Put.l0 n a0 a1 (ByteArray.mk #[]) 0)))) := by kernel_rfl
def groatref01_Put.f (x : Int × Int) : Option (ByteArray × Bool) := if -9223372036854775808 ≤ x.1 ∧ x.1 ≤ 9223372036854775807 then some (putNum x.1 x.2) else none
theorem groatref01_Put_l (n w : Nat) (hn : n ≤ 9223372036854775807) (hw : w ≤ 18) : ∀ (d k j : Nat), j + d = w → d < k → groatref01_Put.l0 k ((n / 10 ^ j : Nat) : Int) (w : Int) (sb (digs j n)) (j : Int) = some (if n < 10 ^ w then (sb (digs w n), true) else (sb [], false))
  | 0, k, j, hj, hk => by
    obtain ⟨k, rfl⟩ : ∃ m, k = m + 1 := ⟨k - 1, by omega⟩
    obtain rfl : j = w := by omega
    rw [groatref01_Put.l0_eq, if_neg (by omega)]
    by_cases c : n < 10 ^ j
    · rw [if_pos c, Nat.div_eq_of_lt c, if_neg (by simp)]
    · have : ¬ n / 10 ^ j = 0 := fun e => c ((Nat.div_eq_zero_iff_lt (Nat.pow_pos (by decide))).1 e)
      rw [if_neg c, if_pos (by omega)]; rfl
  | d + 1, k, j, hj, hk => by
    obtain ⟨k, rfl⟩ : ∃ m, k = m + 1 := ⟨k - 1, by omega⟩
    have ih := groatref01_Put_l n w hn hw d k (j + 1) (by omega) (by omega)
    have hq : n / 10 ^ j ≤ n := Nat.div_le_self ..
    have e1 : n / 10 ^ (j + 1) = n / 10 ^ j / 10 := by rw [Nat.pow_succ, Nat.div_div_eq_div_mul]
    rw [e1, digs_front] at ih
    have hl := digs_length j n
    generalize n / 10 ^ j = q at *
    have t1 : Int.tmod (q : Int) 10 = ((q % 10 : Nat) : Int) := tmod_nat q 10
    have t2 : Int.tdiv (q : Int) 10 = ((q / 10 : Nat) : Int) := tdiv_nat q 10
    have w1 : IntKind.wrap .i64 (48 + ((q % 10 : Nat) : Int)) = ((48 + q % 10 : Nat) : Int) := by rw [wrap_id (by omega) (by omega)]; omega
    rw [groatref01_Put.l0_eq, if_pos (by omega), t1, w1, wrap_b (by omega), strOne, scat_sb _ _ (by rw [hl]; simp; omega), Option.bind_some, t2, wrap_nat (by omega), wrap_succ (by omega)]
    exact ih
theorem groatref01_Put.run (n w : Int) (h : -9223372036854775808 ≤ n ∧ n ≤ 9223372036854775807) : call groatref01_Put.C Try.f114 groatref01_Put.code groatref01_Put.sg groatref01_Put.rs 20 (n, w) = some (putNum n w) := by
  rw [groatref01_Put.eq]
  unfold putNum
  by_cases h1 : n < 0
  · rw [if_pos h1, if_pos (.inl h1)]; rfl
  rw [if_neg h1]
  by_cases h2 : w < 1
  · rw [if_pos h2, if_pos (.inr (.inl h2))]; rfl
  rw [if_neg h2]
  by_cases h3 : w > 18
  · rw [if_pos h3, if_pos (.inr (.inr (.inl h3)))]; rfl
  rw [if_neg h3]
  obtain ⟨n, rfl⟩ := Int.eq_ofNat_of_zero_le (show 0 ≤ n by omega)
  obtain ⟨w, rfl⟩ := Int.eq_ofNat_of_zero_le (show 0 ≤ w by omega)
  have r := groatref01_Put_l n w (by omega) (by omega) w 20 0 (by omega) (by omega)
  rw [Nat.pow_zero, Nat.div_one] at r
  refine r.trans ?_
  rw [Int.toNat_natCast, Int.toNat_natCast]
  by_cases c : n < 10 ^ w
  · rw [if_pos c, if_neg (fun q => q.elim (by omega) fun q => q.elim (by omega) fun q => q.elim (by omega) fun q => q c)]
  · rw [if_neg c, if_pos (.inr (.inr (.inr c)))]
noncomputable def groatref01_Put.c : Con := ⟨114, groatref01_Put.sg, groatref01_Put.rs, groatref01_Put.f⟩
theorem groatref01_Put.con : ConOk Try.prog groatref01_Put.c := walked (C := groatref01_Put.C) rfl (by kernel_rfl) (by kernel_rfl) (by kernel_rfl) rfl trivial fun ⟨n, w⟩ y h => by
  have h : groatref01_Put.f (n, w) = some y := h
  unfold groatref01_Put.f at h
  split at h
  · rename_i hc
    exact ⟨20, (groatref01_Put.run n w hc).trans h⟩
  · cases h
end Go.Proofs.Ytjbhknfdfnilbaa.Xe
