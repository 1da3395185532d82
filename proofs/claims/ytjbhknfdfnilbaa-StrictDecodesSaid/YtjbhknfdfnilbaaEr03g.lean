/- What the reference's Get on packed digits answers. -/
import Derived.Test.YtjbhknfdfnilbaaNgb
import Derived.Test.YtjbhknfdfnilbaaNgb
import Derived.Test.YtjbhknfdfnilbaaEms
namespace Go.Proofs.Ytjbhknfdfnilbaa.Xe
open Go Go.RowKit Go.Proofs.Ytjbhknfdfnilbaa.Sp
set_option linter.unusedVariables false
set_option linter.unusedSimpArgs false
set_option maxRecDepth 100000
theorem nib256 : ∀ n : Fin 256, IntKind.wrap .u8 (Int.tdiv ((n.val : Nat) : Int) 16) = ((n.val / 16 : Nat) : Int) ∧ Int.tmod ((n.val : Nat) : Int) 16 = ((n.val % 16 : Nat) : Int) ∧ IntKind.wrap .u8 (48 + ((n.val / 16 : Nat) : Int)) = ((48 + n.val / 16 : Nat) : Int) ∧ IntKind.wrap .u8 (48 + ((n.val % 16 : Nat) : Int)) = ((48 + n.val % 16 : Nat) : Int) := by decide +kernel
theorem nib (c : UInt8) : IntKind.wrap .u8 (Int.tdiv (c.toNat : Int) 16) = ((c.toNat / 16 : Nat) : Int) ∧ Int.tmod (c.toNat : Int) 16 = ((c.toNat % 16 : Nat) : Int) ∧ IntKind.wrap .u8 (48 + ((c.toNat / 16 : Nat) : Int)) = ((48 + c.toNat / 16 : Nat) : Int) ∧ IntKind.wrap .u8 (48 + ((c.toNat % 16 : Nat) : Int)) = ((48 + c.toNat % 16 : Nat) : Int) := nib256 ⟨c.toNat, c.toNat_lt⟩
/-! ### groatref03_Get -/
@[reducible] def groatref03_Get.sg : List Shp := [.v (.str), .v (.int .i64)]
@[reducible] def groatref03_Get.rs : Rs := .tup [.v (.str), .v (.int .i64), .v (.int .i64)]
@[reducible] noncomputable def groatref03_Get.code : Code := Try.f71.body.getD .skip
noncomputable def groatref03_Get.C : Ctx := ⟨tab, [], [], ⟨[(8, [0, 7, 8, 9], 0)], []⟩⟩
noncomputable def groatref03_Get.l0 (n : Nat) (v0 : ByteArray) (v1 : Int) (v2 : ByteArray) (v3 : Int) : Option ((ByteArray × (Int × Int))) := run groatref03_Get.C (finOf groatref03_Get.C Try.f71 groatref03_Get.rs) n (todoAt 8 groatref03_Get.code) ⟨[.str v0, .junk, .junk, .junk, .junk, .junk, .junk, .int .i64 v1, .str v2, .int .i64 v3, .junk, .junk, .junk, .junk, .junk, .junk, .junk, .junk, .junk, .junk, .junk, .junk, .junk, .junk, .junk, .junk, .junk, .junk, .junk, .junk, .junk, .junk, .junk, .junk, .junk, .junk, .junk, .junk, .junk, .junk, .junk, .junk, .junk, .junk, .junk, .junk, .junk, .junk, .junk, .junk, .junk, .junk, .junk, .junk, .junk, .junk, .junk, .junk, .junk, .junk, .junk, .junk, .junk, .junk, .junk, .junk, .junk, .junk, .junk, .junk, .junk, .junk], [], []⟩
-- the loop at region 8
theorem groatref03_Get.l0_eq (n : Nat) (v0 : ByteArray) (v1 : Int) (v2 : ByteArray) (v3 : Int) : groatref03_Get.l0 (n + 1) v0 v1 v2 v3 =
  (if v3 < IntKind.wrap IntKind.i64 (2 * v1) then (if v3 = 1 then (if v2 = ByteArray.mk #[] then ((bget v0 0).bind fun b0 =>
     (if ¬IntKind.wrap IntKind.u8 (Int.tdiv (↑(UInt8.toNat b0) : Int) 16) = 0 then (some ((ByteArray.mk #[], 4, 0)))
     else ((bget v0 (IntKind.wrap IntKind.i64 (Int.tdiv v3 2))).bind fun b1 =>
      (if Int.tmod v3 2 = 1 then ((bget v0 (IntKind.wrap IntKind.i64 (Int.tdiv v3 2))).bind fun b2 =>
       (if Int.tmod (↑(UInt8.toNat b2) : Int) 16 > 9 then (some ((ByteArray.mk #[], 3, IntKind.wrap IntKind.i64 (Int.tdiv v3 2))))
       else ((scat v2 (bytesOf [IntKind.wrap IntKind.u8 (48 + Int.tmod (↑(UInt8.toNat b2) : Int) 16)])).bind fun b3 =>
        (groatref03_Get.l0 n v0 v1 b3 (IntKind.wrap IntKind.i64 (v3 + 1))))))
      else (if IntKind.wrap IntKind.u8 (Int.tdiv (↑(UInt8.toNat b1) : Int) 16) > 9 then (some ((ByteArray.mk #[], 3, IntKind.wrap IntKind.i64 (Int.tdiv v3 2))))
       else ((scat v2 (bytesOf [IntKind.wrap IntKind.u8 (48 + IntKind.wrap IntKind.u8 (Int.tdiv (↑(UInt8.toNat b1) : Int) 16))])).bind fun b4 =>
        (groatref03_Get.l0 n v0 v1 b4 (IntKind.wrap IntKind.i64 (v3 + 1)))))))))
    else ((bget v0 (IntKind.wrap IntKind.i64 (Int.tdiv v3 2))).bind fun b5 =>
     (if Int.tmod v3 2 = 1 then ((bget v0 (IntKind.wrap IntKind.i64 (Int.tdiv v3 2))).bind fun b6 =>
      (if Int.tmod (↑(UInt8.toNat b6) : Int) 16 > 9 then (some ((ByteArray.mk #[], 3, IntKind.wrap IntKind.i64 (Int.tdiv v3 2))))
      else ((scat v2 (bytesOf [IntKind.wrap IntKind.u8 (48 + Int.tmod (↑(UInt8.toNat b6) : Int) 16)])).bind fun b7 =>
       (groatref03_Get.l0 n v0 v1 b7 (IntKind.wrap IntKind.i64 (v3 + 1))))))
     else (if IntKind.wrap IntKind.u8 (Int.tdiv (↑(UInt8.toNat b5) : Int) 16) > 9 then (some ((ByteArray.mk #[], 3, IntKind.wrap IntKind.i64 (Int.tdiv v3 2))))
      else ((scat v2 (bytesOf [IntKind.wrap IntKind.u8 (48 + IntKind.wrap IntKind.u8 (Int.tdiv (↑(UInt8.toNat b5) : Int) 16))])).bind fun b8 =>
       (groatref03_Get.l0 n v0 v1 b8 (IntKind.wrap IntKind.i64 (v3 + 1))))))))
   else ((bget v0 (IntKind.wrap IntKind.i64 (Int.tdiv v3 2))).bind fun b9 =>
    (if Int.tmod v3 2 = 1 then ((bget v0 (IntKind.wrap IntKind.i64 (Int.tdiv v3 2))).bind fun b10 =>
     (if Int.tmod (↑(UInt8.toNat b10) : Int) 16 > 9 then (some ((ByteArray.mk #[], 3, IntKind.wrap IntKind.i64 (Int.tdiv v3 2))))
     else ((scat v2 (bytesOf [IntKind.wrap IntKind.u8 (48 + Int.tmod (↑(UInt8.toNat b10) : Int) 16)])).bind fun b11 =>
      (groatref03_Get.l0 n v0 v1 b11 (IntKind.wrap IntKind.i64 (v3 + 1))))))
    else (if IntKind.wrap IntKind.u8 (Int.tdiv (↑(UInt8.toNat b9) : Int) 16) > 9 then (some ((ByteArray.mk #[], 3, IntKind.wrap IntKind.i64 (Int.tdiv v3 2))))
     else ((scat v2 (bytesOf [IntKind.wrap IntKind.u8 (48 + IntKind.wrap IntKind.u8 (Int.tdiv (↑(UInt8.toNat b9) : Int) 16))])).bind fun b12 =>
      (groatref03_Get.l0 n v0 v1 b12 (IntKind.wrap IntKind.i64 (v3 + 1))))))))
  else (some ((v2, 0, 0)))) := by kernel_rfl
theorem groatref03_Get.eq (n : Nat) (a0 : ByteArray) (a1 : Int) : call groatref03_Get.C Try.f71 groatref03_Get.code groatref03_Get.sg groatref03_Get.rs n (a0, a1) =
  (if a1 < 0 then (some ((ByteArray.mk #[], 1, 0)))
  else (if a1 > 999 then (some ((ByteArray.mk #[], 1, 0)))
   else (if (↑(ByteArray.size a0) : Int) < IntKind.wrap IntKind.i64 (Int.tdiv (IntKind.wrap IntKind.i64 (a1 + 1)) 2) then (some ((ByteArray.mk #[], 2, (↑(ByteArray.size a0) : Int))))
    else (groatref03_Get.l0 n a0 (IntKind.wrap IntKind.i64 (Int.tdiv (IntKind.wrap IntKind.i64 (a1 + 1)) 2)) (ByteArray.mk #[]) (IntKind.wrap IntKind.i64 (IntKind.wrap IntKind.i64 (2 * IntKind.wrap IntKind.i64 (Int.tdiv (IntKind.wrap IntKind.i64 (a1 + 1)) 2)) - a1)))))) := by kernel_rfl
def groatref03_Get.f (x : ByteArray × Int) : Option (ByteArray × Int × Int) := if x.1.size ≤ 1000000000000 ∧ -1000000 ≤ x.2 ∧ x.2 ≤ 1000000 then some (sb (bcdGet (bl x.1) x.2).1, (bcdGet (bl x.1) x.2).2.1, (bcdGet (bl x.1) x.2).2.2) else none
theorem groatref03_Get (b : List UInt8) (hb : b.length ≤ 1000000000000) (n : Int) (h1 : -1000000 ≤ n) (h2 : n ≤ 1000000) : groatref03_Get.f (sb b, n) = some (sb (bcdGet b n).1, (bcdGet b n).2.1, (bcdGet b n).2.2) := if_pos ⟨by rw [size_sb]; exact hb, h1, h2⟩
/-- The second half of a byte. -/
theorem ref03_low (b : List UInt8) (z : Nat) (hz : z ≤ 1000) (o : List UInt8) (ho : o.length ≤ 2000) (i : Nat) (c : UInt8) (hc : bget (sb b) (i : Int) = some c) (hi : i < z) (hne : i = 0 → o ≠ []) (k : Nat) :
    groatref03_Get.l0 (k + 1) (sb b) (z : Int) (sb o) ((2 * i + 1 : Nat) : Int) = if 9 < c.toNat % 16 then some (ByteArray.mk #[], 3, (i : Int)) else groatref03_Get.l0 k (sb b) (z : Int) (sb (o ++ [u8 (48 + c.toNat % 16)])) ((2 * (i + 1) : Nat) : Int) := by
  obtain ⟨n1, n2, n3, n4⟩ := nib c
  have t1 : Int.tdiv ((2 * i + 1 : Nat) : Int) 2 = (i : Int) := by rw [show Int.tdiv ((2 * i + 1 : Nat) : Int) 2 = (((2 * i + 1) / 2 : Nat) : Int) from tdiv_nat (2 * i + 1) 2]; omega
  have t2 : Int.tmod ((2 * i + 1 : Nat) : Int) 2 = 1 := by rw [show Int.tmod ((2 * i + 1 : Nat) : Int) 2 = (((2 * i + 1) % 2 : Nat) : Int) from tmod_nat (2 * i + 1) 2]; omega
  have w1 : IntKind.wrap .i64 (2 * (z : Int)) = 2 * (z : Int) := wrap_id (by omega) (by omega)
  have w2 : IntKind.wrap .i64 (i : Int) = (i : Int) := wrap_id (by omega) (by omega)
  have w3 : IntKind.wrap .i64 (((2 * i + 1 : Nat) : Int) + 1) = ((2 * (i + 1) : Nat) : Int) := by rw [wrap_id (by omega) (by omega)]; omega
  have e : (if Int.tmod ((2 * i + 1 : Nat) : Int) 2 = 1 then ((bget (sb b) (IntKind.wrap IntKind.i64 (Int.tdiv ((2 * i + 1 : Nat) : Int) 2))).bind fun b2 =>
       (if Int.tmod (↑(UInt8.toNat b2) : Int) 16 > 9 then (some ((ByteArray.mk #[], 3, IntKind.wrap IntKind.i64 (Int.tdiv ((2 * i + 1 : Nat) : Int) 2))))
       else ((scat (sb o) (bytesOf [IntKind.wrap IntKind.u8 (48 + Int.tmod (↑(UInt8.toNat b2) : Int) 16)])).bind fun b3 =>
        (groatref03_Get.l0 k (sb b) (z : Int) b3 (IntKind.wrap IntKind.i64 (((2 * i + 1 : Nat) : Int) + 1))))))
      else (if IntKind.wrap IntKind.u8 (Int.tdiv (↑(UInt8.toNat c) : Int) 16) > 9 then (some ((ByteArray.mk #[], 3, IntKind.wrap IntKind.i64 (Int.tdiv ((2 * i + 1 : Nat) : Int) 2))))
       else ((scat (sb o) (bytesOf [IntKind.wrap IntKind.u8 (48 + IntKind.wrap IntKind.u8 (Int.tdiv (↑(UInt8.toNat c) : Int) 16))])).bind fun b4 =>
        (groatref03_Get.l0 k (sb b) (z : Int) b4 (IntKind.wrap IntKind.i64 (((2 * i + 1 : Nat) : Int) + 1)))))) = if 9 < c.toNat % 16 then some (ByteArray.mk #[], 3, (i : Int)) else groatref03_Get.l0 k (sb b) (z : Int) (sb (o ++ [u8 (48 + c.toNat % 16)])) ((2 * (i + 1) : Nat) : Int) := by
    rw [if_pos t2, t1, w2, hc, Option.bind_some, n2, n4, w3]
    by_cases q : 9 < c.toNat % 16
    · rw [if_pos (show ((c.toNat % 16 : Nat) : Int) > 9 by omega), if_pos q]
    · rw [if_neg (show ¬ ((c.toNat % 16 : Nat) : Int) > 9 by omega), if_neg q, strOne, scat_sb _ _ (by simp only [List.length_cons, List.length_nil]; omega), Option.bind_some]
  rw [groatref03_Get.l0_eq, w1, if_pos (show ((2 * i + 1 : Nat) : Int) < 2 * (z : Int) by omega)]
  by_cases c1 : ((2 * i + 1 : Nat) : Int) = 1
  · have hi0 : i = 0 := by omega
    rw [if_pos c1, if_neg (show ¬ sb o = ByteArray.mk #[] from fun q => hne hi0 (sb_inj (b := []) q)), t1, w2, hc, Option.bind_some]
    rw [t1, w2, hc] at e
    exact e
  · rw [if_neg c1, t1, w2, hc, Option.bind_some]
    rw [t1, w2, hc] at e
    exact e
/-- The first half of a byte. -/
theorem ref03_high (b : List UInt8) (z : Nat) (hz : z ≤ 1000) (o : List UInt8) (ho : o.length ≤ 2000) (i : Nat) (c : UInt8) (hc : bget (sb b) (i : Int) = some c) (hi : i < z) (k : Nat) :
    groatref03_Get.l0 (k + 1) (sb b) (z : Int) (sb o) ((2 * i : Nat) : Int) = if 9 < c.toNat / 16 then some (ByteArray.mk #[], 3, (i : Int)) else groatref03_Get.l0 k (sb b) (z : Int) (sb (o ++ [u8 (48 + c.toNat / 16)])) ((2 * i + 1 : Nat) : Int) := by
  obtain ⟨n1, n2, n3, n4⟩ := nib c
  have t1 : Int.tdiv ((2 * i : Nat) : Int) 2 = (i : Int) := by rw [show Int.tdiv ((2 * i : Nat) : Int) 2 = (((2 * i) / 2 : Nat) : Int) from tdiv_nat (2 * i) 2]; omega
  have t2 : ¬ Int.tmod ((2 * i : Nat) : Int) 2 = 1 := by rw [show Int.tmod ((2 * i : Nat) : Int) 2 = (((2 * i) % 2 : Nat) : Int) from tmod_nat (2 * i) 2]; omega
  have w1 : IntKind.wrap .i64 (2 * (z : Int)) = 2 * (z : Int) := wrap_id (by omega) (by omega)
  have w2 : IntKind.wrap .i64 (i : Int) = (i : Int) := wrap_id (by omega) (by omega)
  have w3 : IntKind.wrap .i64 (((2 * i : Nat) : Int) + 1) = ((2 * i + 1 : Nat) : Int) := by rw [wrap_id (by omega) (by omega)]; omega
  rw [groatref03_Get.l0_eq, w1, if_pos (show ((2 * i : Nat) : Int) < 2 * (z : Int) by omega), if_neg (show ¬ ((2 * i : Nat) : Int) = 1 by omega), t1, w2, hc, Option.bind_some, if_neg t2, n1, n3, w3]
  by_cases q : 9 < c.toNat / 16
  · rw [if_pos (show ((c.toNat / 16 : Nat) : Int) > 9 by omega), if_pos q]
  · rw [if_neg (show ¬ ((c.toNat / 16 : Nat) : Int) > 9 by omega), if_neg q, strOne, scat_sb _ _ (by simp only [List.length_cons, List.length_nil]; omega), Option.bind_some]
theorem ref03_end (b : List UInt8) (z : Nat) (hz : z ≤ 1000) (o : List UInt8) (k : Nat) : groatref03_Get.l0 (k + 1) (sb b) (z : Int) (sb o) ((2 * z : Nat) : Int) = some (sb o, 0, 0) := by
  rw [groatref03_Get.l0_eq, wrap_id (by omega) (by omega), if_neg (by omega)]
theorem bcdFrom_pre (odd : Bool) : ∀ (m : List UInt8) (i : Nat) (o : List UInt8), i ≠ 0 → odd = true → o ≠ [] → bcdFrom odd i o m = (if (bcdFrom false i (o.drop 1) m).2.1 = 0 then ((bcdFrom false i (o.drop 1) m).1, 0, 0) else bcdFrom false i (o.drop 1) m)
  | [], i, o, hi, ho, hne => by
    subst ho
    rw [bcdFrom, bcdFrom]; rfl
  | c :: m, i, o, hi, ho, hne => by
    have ih := bcdFrom_pre odd m (i + 1) (o ++ [u8 (48 + c.toNat / 16), u8 (48 + c.toNat % 16)]) (by omega) ho (by simp)
    have e : (o ++ [u8 (48 + c.toNat / 16), u8 (48 + c.toNat % 16)]).drop 1 = o.drop 1 ++ [u8 (48 + c.toNat / 16), u8 (48 + c.toNat % 16)] := by
      cases o with
      | nil => exact absurd rfl hne
      | cons x o => rfl
    rw [e] at ih
    rw [bcdFrom, bcdFrom, if_neg (show ¬ (i = 0 ∧ odd = true ∧ c.toNat / 16 ≠ 0) from fun q => hi q.1), if_neg (show ¬ (i = 0 ∧ false = true ∧ c.toNat / 16 ≠ 0) from fun q => hi q.1)]
    by_cases q : 9 < c.toNat / 16 ∨ 9 < c.toNat % 16
    · rw [if_pos q, if_pos q]; rfl
    · rw [if_neg q, if_neg q, ih]
theorem bcdFrom_z (i : Nat) (o : List UInt8) : ∀ (m : List UInt8), (bcdFrom false i o m).2.1 = 0 → (bcdFrom false i o m).2.2 = 0 := fun m => by
  induction m generalizing i o with
  | nil => intro _; rw [bcdFrom]
  | cons c m ih =>
    rw [bcdFrom]
    split
    · intro h; cases h
    · split
      · intro h; cases h
      · exact ih _ _
/-- Bytes from the first half on. -/
theorem ref03_l (b : List UInt8) (z : Nat) (hz : z ≤ 500) (hzb : z ≤ b.length) : ∀ (m : List UInt8) (i : Nat) (o : List UInt8) (k : Nat), (b.take z).drop i = m → o.length ≤ 2 * i → 2 * m.length < k →
    groatref03_Get.l0 k (sb b) (z : Int) (sb o) ((2 * i : Nat) : Int) = some (sb (bcdFrom false i o m).1, (bcdFrom false i o m).2.1, (bcdFrom false i o m).2.2)
  | [], i, o, k, hd, ho, hk => by
    obtain ⟨k, rfl⟩ : ∃ m, k = m + 1 := ⟨k - 1, by omega⟩
    have h := dropn hd
    rw [List.length_take] at h
    rw [groatref03_Get.l0_eq, wrap_id (by omega) (by omega), if_neg (by omega), bcdFrom]; rfl
  | c :: m, i, o, k, hd, ho, hk => by
    rw [List.length_cons] at hk
    obtain ⟨k, rfl⟩ : ∃ m, k = m + 1 + 1 := ⟨k - 2, by omega⟩
    obtain ⟨hlt, hc, hd2⟩ := drop_cons hd
    rw [List.length_take] at hlt
    have hb : bget (sb b) (i : Int) = some c := by
      rw [bget_sb b i (by omega), ← hc, List.getElem_take]
    rw [ref03_high b z (by omega) o (by omega) i c hb (by omega), bcdFrom, if_neg (show ¬ (i = 0 ∧ false = true ∧ c.toNat / 16 ≠ 0) from fun q => by cases q.2.1)]
    by_cases q : 9 < c.toNat / 16
    · rw [if_pos q, if_pos (.inl q)]; rfl
    · rw [if_neg q, ref03_low b z (by omega) _ (by rw [List.length_append, List.length_singleton]; omega) i c hb (by omega) (fun _ => by simp)]
      by_cases q2 : 9 < c.toNat % 16
      · rw [if_pos q2, if_pos (.inr q2)]; rfl
      · rw [if_neg q2, if_neg (show ¬ (9 < c.toNat / 16 ∨ 9 < c.toNat % 16) from fun e => e.elim q q2), ref03_l b z hz hzb m (i + 1) _ k hd2 (by rw [List.length_append, List.length_append, List.length_singleton, List.length_singleton]; omega) (by omega), List.append_assoc]; rfl
theorem groatref03_Get.run (b : List UInt8) (hb : b.length ≤ 1000000000000) (n : Int) (h1 : -1000000 ≤ n) (h2 : n ≤ 1000000) : call groatref03_Get.C Try.f71 groatref03_Get.code groatref03_Get.sg groatref03_Get.rs 1200 (sb b, n) = some (sb (bcdGet b n).1, (bcdGet b n).2.1, (bcdGet b n).2.2) := by
  rw [groatref03_Get.eq]
  unfold bcdGet
  by_cases c1 : n < 0
  · rw [if_pos c1, if_pos (.inl c1)]; rfl
  rw [if_neg c1]
  by_cases c2 : n > 999
  · rw [if_pos c2, if_pos (.inr c2)]; rfl
  rw [if_neg c2, if_neg (show ¬ (n < 0 ∨ 999 < n) by omega)]
  obtain ⟨n, rfl⟩ := Int.eq_ofNat_of_zero_le (show 0 ≤ n by omega)
  have t1 : IntKind.wrap .i64 (Int.tdiv (IntKind.wrap .i64 ((n : Int) + 1)) 2) = (((n + 1) / 2 : Nat) : Int) := by
    rw [wrap_succ (by omega), show Int.tdiv ((n + 1 : Nat) : Int) 2 = (((n + 1) / 2 : Nat) : Int) from tdiv_nat (n + 1) 2, wrap_nat (by omega)]
  rw [t1, size_sb, Int.toNat_natCast]
  by_cases c3 : b.length < (n + 1) / 2
  · rw [if_pos (by omega), if_pos c3]; rfl
  rw [if_neg (by omega), if_neg c3]
  have hz : (b.take ((n + 1) / 2)).length = (n + 1) / 2 := by rw [List.length_take]; omega
  by_cases c4 : n % 2 = 1
  · have w : IntKind.wrap .i64 (IntKind.wrap .i64 (2 * (((n + 1) / 2 : Nat) : Int)) - (n : Int)) = ((2 * 0 + 1 : Nat) : Int) := by rw [wrap_id (x := 2 * _) (by omega) (by omega), wrap_id (by omega) (by omega)]; omega
    rw [w, decide_eq_true c4]
    cases hd : b.take ((n + 1) / 2) with
    | nil => rw [hd] at hz; simp at hz; omega
    | cons c m =>
      have hd0 : (b.take ((n + 1) / 2)).drop 0 = c :: m := hd
      obtain ⟨hlt, hc, hd2⟩ := drop_cons hd0
      rw [hz] at hlt
      have hbg : bget (sb b) ((0 : Nat) : Int) = some c := by rw [bget_sb b 0 (by omega), ← hc, List.getElem_take]
      have hbg0 : bget (sb b) 0 = some c := hbg
      have hm : m.length ≤ 500 := by have := congrArg List.length hd; rw [hz, List.length_cons] at this; omega
      obtain ⟨n1, n2, n3, n4⟩ := nib c
      rw [show (1200 : Nat) = 1199 + 1 from rfl, groatref03_Get.l0_eq, wrap_id (x := 2 * _) (by omega) (by omega), if_pos (by omega), if_pos (by rfl), if_pos (show ByteArray.mk #[] = ByteArray.mk #[] from rfl), hbg0, Option.bind_some, n1, bcdFrom]
      by_cases q : c.toNat / 16 = 0
      · have t2 : Int.tdiv ((2 * 0 + 1 : Nat) : Int) 2 = 0 := rfl
        have t3 : Int.tmod ((2 * 0 + 1 : Nat) : Int) 2 = 1 := rfl
        have w0 : IntKind.wrap .i64 0 = 0 := wrap_id (by omega) (by omega)
        have w3 : IntKind.wrap .i64 (((2 * 0 + 1 : Nat) : Int) + 1) = ((2 * (0 + 1) : Nat) : Int) := by rw [wrap_id (by omega) (by omega)]; omega
        rw [if_neg (show ¬ ¬ ((c.toNat / 16 : Nat) : Int) = 0 by omega), t2, w0, hbg0, Option.bind_some, if_pos t3, Option.bind_some, n2, n4, if_neg (show ¬ (0 = 0 ∧ true = true ∧ c.toNat / 16 ≠ 0) from fun e => e.2.2 q)]
        by_cases q2 : 9 < c.toNat % 16
        · rw [if_pos (show ((c.toNat % 16 : Nat) : Int) > 9 by omega), if_pos (.inr q2)]; rfl
        · rw [if_neg (show ¬ ((c.toNat % 16 : Nat) : Int) > 9 by omega), if_neg (show ¬ (9 < c.toNat / 16 ∨ 9 < c.toNat % 16) by omega), strOne, show ByteArray.mk #[] = sb [] from rfl, scat_sb _ _ (by simp), Option.bind_some, w3]
          have r := ref03_l b ((n + 1) / 2) (by omega) (by omega) m (0 + 1) ([] ++ [u8 (48 + c.toNat % 16)]) 1199 hd2 (by simp) (by omega)
          refine r.trans ?_
          have e := bcdFrom_pre true m (0 + 1) ([] ++ [u8 (48 + c.toNat / 16), u8 (48 + c.toNat % 16)]) (by decide) rfl (by simp)
          rw [show ([] ++ [u8 (48 + c.toNat / 16), u8 (48 + c.toNat % 16)] : List UInt8).drop 1 = [] ++ [u8 (48 + c.toNat % 16)] from rfl] at e
          rw [e]
          by_cases q3 : (bcdFrom false (0 + 1) ([] ++ [u8 (48 + c.toNat % 16)]) m).2.1 = 0
          · rw [if_pos q3, q3, bcdFrom_z _ _ _ q3]
          · rw [if_neg q3]
      · rw [if_pos (show ¬ ((c.toNat / 16 : Nat) : Int) = 0 by omega), if_pos ⟨rfl, rfl, q⟩]; rfl
  · have w : IntKind.wrap .i64 (IntKind.wrap .i64 (2 * (((n + 1) / 2 : Nat) : Int)) - (n : Int)) = ((2 * 0 : Nat) : Int) := by rw [wrap_id (x := 2 * _) (by omega) (by omega), wrap_id (by omega) (by omega)]; omega
    rw [w, decide_eq_false c4]
    exact ref03_l b ((n + 1) / 2) (by omega) (by omega) _ 0 [] 1200 rfl (by simp) (by rw [hz]; omega)
noncomputable def groatref03_Get.c : Con := ⟨71, groatref03_Get.sg, groatref03_Get.rs, groatref03_Get.f⟩
theorem groatref03_Get.con : ConOk Try.prog groatref03_Get.c := walked (C := groatref03_Get.C) rfl (by kernel_rfl) (by kernel_rfl) (by kernel_rfl) rfl trivial fun ⟨b, n⟩ y h => by
  obtain ⟨b, rfl⟩ := ex_sb b
  have h : groatref03_Get.f (sb b, n) = some y := h
  unfold groatref03_Get.f at h
  split at h
  · rename_i hc
    obtain ⟨h1, h2, h3⟩ := hc
    have h1 : (sb b).size ≤ 1000000000000 := h1
    rw [size_sb] at h1
    exact ⟨1200, (groatref03_Get.run b h1 n h2 h3).trans h⟩
  · cases h
end Go.Proofs.Ytjbhknfdfnilbaa.Xe
