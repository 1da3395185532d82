/- What the reference's functions on bit maps answer. -/
import Derived.Test.YtjbhknfdfnilbaaEr05
import Derived.Test.YtjbhknfdfnilbaaEr02
import Derived.Test.YtjbhknfdfnilbaaNgd
namespace Go.Proofs.Ytjbhknfdfnilbaa.Xe
open Go Go.RowKit Go.Proofs.Ytjbhknfdfnilbaa.Sp
set_option linter.unusedVariables false
set_option linter.unusedSimpArgs false
set_option maxRecDepth 100000
/-! ### bytes -/
theorem hor_self (p : Nat → Bool) (i : Nat) : ∀ j, j < 64 → p (i + j) = (hor p i 64).testBit (63 - j) := fun j hj => by
  have := hor_bit p i 64 j hj
  rw [show 64 - 1 - j = 63 - j by omega] at this
  exact this.symm
/-! ### groatref06_bytes -/
@[reducible] def groatref06_bytes.sg : List Shp := [.v (.sl (.int .i64)), .v (.int .i64)]
@[reducible] def groatref06_bytes.rs : Rs := .one (.v (.str))
@[reducible] noncomputable def groatref06_bytes.code : Code := Try.f87.body.getD .skip
noncomputable def groatref06_bytes.C : Ctx := ⟨tab, [groatref05_In.c], [], ⟨[(3, [0, 1, 5, 6], 0), (7, [0, 1, 5, 6, 7, 8], 0)], []⟩⟩
noncomputable def groatref06_bytes.l0 (n : Nat) (v0 : List Int) (v1 : Int) (v2 : List Int) (v3 : Int) : Option ByteArray := run groatref06_bytes.C (finOf groatref06_bytes.C Try.f87 groatref06_bytes.rs) n (todoAt 3 groatref06_bytes.code) ⟨[.sl none (.int .i64) v0, .int .i64 v1, .junk, .junk, .junk, .sl (some 0) (.int .u8) v2, .int .i64 v3, .junk, .junk, .junk, .junk, .junk, .junk, .junk, .junk, .junk, .junk, .junk, .junk, .junk, .junk, .junk, .junk, .junk, .junk, .junk, .junk, .junk, .junk, .junk, .junk, .junk, .junk, .junk, .junk, .junk], [], [true]⟩
noncomputable def groatref06_bytes.l1 (n : Nat) (v0 : List Int) (v1 : Int) (v2 : List Int) (v3 : Int) (v4 : Int) (v5 : Int) : Option ByteArray := run groatref06_bytes.C (finOf groatref06_bytes.C Try.f87 groatref06_bytes.rs) n (todoAt 7 groatref06_bytes.code) ⟨[.sl none (.int .i64) v0, .int .i64 v1, .junk, .junk, .junk, .sl (some 0) (.int .u8) v2, .int .i64 v3, .int .u8 v4, .int .i64 v5, .junk, .junk, .junk, .junk, .junk, .junk, .junk, .junk, .junk, .junk, .junk, .junk, .junk, .junk, .junk, .junk, .junk, .junk, .junk, .junk, .junk, .junk, .junk, .junk, .junk, .junk, .junk], [], [true]⟩
-- the loop at region 3
theorem groatref06_bytes.l0_eq (n : Nat) (v0 : List Int) (v1 : Int) (v2 : List Int) (v3 : Int) : groatref06_bytes.l0 (n + 1) v0 v1 v2 v3 =
  (if v3 < 8 then (groatref06_bytes.l1 n v0 v1 v2 v3 0 0)
  else (some (bytesOf v2))) := by kernel_rfl
-- the loop at region 7
theorem groatref06_bytes.l1_eq (n : Nat) (v0 : List Int) (v1 : Int) (v2 : List Int) (v3 : Int) (v4 : Int) (v5 : Int) : groatref06_bytes.l1 (n + 1) v0 v1 v2 v3 v4 v5 =
  (if v5 < 8 then ((groatref05_In.f (v0, IntKind.wrap IntKind.i64 (IntKind.wrap IntKind.i64 (v1 + IntKind.wrap IntKind.i64 (8 * v3)) + v5))).bind fun b0 =>
   (if b0 = true then (groatref06_bytes.l1 n v0 v1 v2 v3 (IntKind.wrap IntKind.u8 (IntKind.wrap IntKind.u8 (v4 * 2) + 1)) (IntKind.wrap IntKind.i64 (v5 + 1)))
   else (groatref06_bytes.l1 n v0 v1 v2 v3 (IntKind.wrap IntKind.u8 (v4 * 2)) (IntKind.wrap IntKind.i64 (v5 + 1)))))
  else ((lcat 1 v2 [v4]).bind fun b1 =>
   (groatref06_bytes.l0 n v0 v1 b1 (IntKind.wrap IntKind.i64 (v3 + 1))))) := by kernel_rfl
theorem groatref06_bytes.eq (n : Nat) (a0 : List Int) (a1 : Int) : call groatref06_bytes.C Try.f87 groatref06_bytes.code groatref06_bytes.sg groatref06_bytes.rs n (a0, a1) =
  (groatref06_bytes.l0 n a0 a1 [] 0) := by kernel_rfl
def groatref06_bytes.f (x : List Int × Int) : Option ByteArray := if x.1.length ≤ 1000000 ∧ 0 ≤ x.2 ∧ x.2 ≤ 1000 then some (sb (be8 (hor (isIn x.1) x.2.toNat 64))) else none
theorem groatref06_bytes (L : List Int) (hL : L.length ≤ 1000000) (i : Nat) (hi : i ≤ 1000) : groatref06_bytes.f (L, (i : Int)) = some (sb (be8 (hor (isIn L) i 64))) := if_pos ⟨hL, by dsimp only; omega, by dsimp only; omega⟩
theorem two_byte {c : Nat} (p : Nat → Bool) (i : Nat) (h : c < 8) : (if p (i + c) = true then IntKind.wrap .u8 (IntKind.wrap .u8 ((hor p i c : Int) * 2) + 1) else IntKind.wrap .u8 ((hor p i c : Int) * 2)) = ((hor p i (c + 1) : Nat) : Int) := by
  have h1 := hor_lt p i c
  have h2 : 2 ^ c ≤ 2 ^ 7 := Nat.pow_le_pow_right (by decide) (by omega)
  rw [show (2 : Nat) ^ 7 = 128 from rfl] at h2
  have w : IntKind.wrap .u8 ((hor p i c : Int) * 2) = ((hor p i c * 2 : Nat) : Int) := by
    rw [show (hor p i c : Int) * 2 = ((hor p i c * 2 : Nat) : Int) by omega, wrap_u8 (by omega)]
  rw [w, hor]
  by_cases hx : p (i + c) = true
  · rw [if_pos hx, hx, show ((hor p i c * 2 : Nat) : Int) + 1 = ((hor p i c * 2 + 1 : Nat) : Int) by omega, wrap_u8 (by omega), Bool.toNat_true]; omega
  · rw [if_neg hx, Bool.eq_false_iff.2 hx, Bool.toNat_false]; omega
theorem groatref06_bytes_l (L : List Int) (hL : L.length ≤ 1000000) (s : Nat) (hs : s ≤ 1000) : ∀ (d k b c : Nat), (b = 8 ∧ c = 0 ∧ d = 0) ∨ (b < 8 ∧ c ≤ 8 ∧ 9 * b + c + d = 72) → 2 * d < k →
    (c = 0 → groatref06_bytes.l0 (k + 1) L (s : Int) (ints ((be8 (hor (isIn L) s 64)).take b)) (b : Int) = some (sb (be8 (hor (isIn L) s 64)))) ∧
    (b < 8 → groatref06_bytes.l1 k L (s : Int) (ints ((be8 (hor (isIn L) s 64)).take b)) (b : Int) (hor (isIn L) (s + 8 * b) c : Int) (c : Int) = some (sb (be8 (hor (isIn L) s 64)))) := by
  intro d
  induction d with
  | zero =>
    intro k b c h hk
    rcases h with ⟨rfl, rfl, -⟩ | h
    · refine ⟨fun _ => ?_, fun h => absurd h (by omega)⟩
      rw [groatref06_bytes.l0_eq, if_neg (by decide), str_ints]; rfl
    · omega
  | succ d ih =>
    intro k b c h hk
    obtain ⟨hb, hc, hd⟩ : b < 8 ∧ c ≤ 8 ∧ 9 * b + c + (d + 1) = 72 := by omega
    have key : groatref06_bytes.l1 k L (s : Int) (ints ((be8 (hor (isIn L) s 64)).take b)) (b : Int) (hor (isIn L) (s + 8 * b) c : Int) (c : Int) = some (sb (be8 (hor (isIn L) s 64))) := by
      obtain ⟨k, rfl⟩ : ∃ m, k = m + 1 := ⟨k - 1, by omega⟩
      rw [groatref06_bytes.l1_eq]
      by_cases h8 : c < 8
      · have w : IntKind.wrap .i64 (IntKind.wrap .i64 ((s : Int) + IntKind.wrap .i64 (8 * (b : Int))) + (c : Int)) = ((s + 8 * b + c : Nat) : Int) := by
          rw [wrap_id (x := 8 * (b : Int)) (by omega) (by omega), wrap_id (x := (s : Int) + 8 * (b : Int)) (by omega) (by omega), wrap_id (by omega) (by omega)]; omega
        have := (ih k b (c + 1) (.inr ⟨hb, by omega, by omega⟩) (by omega)).2 hb
        rw [← two_byte (isIn L) (s + 8 * b) h8] at this
        rw [if_pos (by omega), w, groatref05_In L hL, Option.bind_some, wrap_succ (by omega)]
        by_cases hx : isIn L (s + 8 * b + c) = true
        · rw [if_pos hx] at this
          rw [if_pos (show decide (((s + 8 * b + c : Nat) : Int) ∈ L) = true from hx)]; exact this
        · rw [if_neg hx] at this
          rw [if_neg (show ¬ decide (((s + 8 * b + c : Nat) : Int) ∈ L) = true from hx)]; exact this
      · obtain rfl : c = 8 := by omega
        have hv := hor_lt (isIn L) (s + 8 * b) 8
        have e := hor_byte (hor_self (isIn L) s) b hb
        have ht : ints ((be8 (hor (isIn L) s 64)).take b) ++ [((hor (isIn L) (s + 8 * b) 8 : Nat) : Int)] = ints ((be8 (hor (isIn L) s 64)).take (b + 1)) := by
          rw [ints_snoc _ _ hv, List.take_add_one, e]; rfl
        rw [if_neg (by omega), lcat_ok _ _ _ (by rw [ints_length, List.length_take]; simp only [List.length_cons, List.length_nil]; omega), Option.bind_some, wrap_succ (by omega), ht]
        obtain ⟨k, rfl⟩ : ∃ m, k = m + 1 := ⟨k - 1, by omega⟩
        rcases Nat.lt_or_ge (b + 1) 8 with hb1 | hb1
        · exact (ih k (b + 1) 0 (.inr ⟨hb1, by omega, by omega⟩) (by omega)).1 rfl
        · have hb' : b + 1 = 8 := by omega
          rw [hb', groatref06_bytes.l0_eq, if_neg (by decide), str_ints]; rfl
    refine ⟨fun h0 => ?_, fun _ => key⟩
    subst h0
    rw [groatref06_bytes.l0_eq, if_pos (by omega)]
    exact key
noncomputable def groatref06_bytes.c : Con := ⟨87, groatref06_bytes.sg, groatref06_bytes.rs, groatref06_bytes.f⟩
theorem groatref06_bytes.con : ConOk Try.prog groatref06_bytes.c := walked (C := groatref06_bytes.C) rfl (by kernel_rfl) (by kernel_rfl) (by kernel_rfl) rfl ⟨groatref05_In.con, trivial⟩ fun ⟨L, n⟩ y h => by
  have h : groatref06_bytes.f (L, n) = some y := h
  unfold groatref06_bytes.f at h
  split at h
  · rename_i hc
    dsimp only at hc h
    obtain ⟨i, rfl⟩ := Int.eq_ofNat_of_zero_le hc.2.1
    exact ⟨146, by rw [groatref06_bytes.eq]; exact ((groatref06_bytes_l L hc.1 i (by omega) 72 145 0 0 (.inr ⟨by omega, by omega, by omega⟩) (by omega)).1 rfl).trans h⟩
  · cases h
/-! ### part -/
theorem bits256 : ∀ (b : Fin 256) (j : Fin 8), (((b.val % 2 ^ (8 - j.val) : Nat) : Int) ≥ ((2 ^ (8 - j.val) / 2 : Nat) : Int) ↔ b.val.testBit (7 - j.val) = true) ∧
    (b.val.testBit (7 - j.val) = true → IntKind.wrap .u8 (((b.val % 2 ^ (8 - j.val) : Nat) : Int) - ((2 ^ (8 - j.val) / 2 : Nat) : Int)) = ((b.val % 2 ^ (8 - (j.val + 1)) : Nat) : Int)) ∧
    (b.val.testBit (7 - j.val) = false → b.val % 2 ^ (8 - j.val) = b.val % 2 ^ (8 - (j.val + 1))) ∧
    IntKind.wrap .u8 (Int.tdiv ((2 ^ (8 - j.val) / 2 : Nat) : Int) 2) = ((2 ^ (8 - (j.val + 1)) / 2 : Nat) : Int) := by decide +kernel
/-- The fields whose bits stand in a number, counted from i. -/
def nlst (x i : Nat) : List Int := lst (fun n => x.testBit (63 - (n - i))) i 64
theorem byte_bit {l : List UInt8} (h : l.length = 8) (b c : Nat) (hb : b < 8) (hc : c < 8) (a : UInt8) (ha : l[b]? = some a) : a.toNat.testBit (7 - c) = (nat8 l).testBit (63 - (8 * b + c)) := by
  have e : (be8 (nat8 l))[b]? = some a := by rw [be8_nat8 h]; exact ha
  have e2 := hor_byte (p := fun n => (nat8 l).testBit (63 - n)) (i := 0) (x := nat8 l) (fun j hj => by rw [Nat.zero_add]) b hb
  rw [e] at e2
  have e3 := congrArg UInt8.toNat (Option.some.inj e2)
  have hlt := hor_lt (fun n => (nat8 l).testBit (63 - n)) (0 + 8 * b) 8
  rw [u8_toNat _ hlt] at e3
  rw [e3]
  have := hor_bit (fun n => (nat8 l).testBit (63 - n)) (0 + 8 * b) 8 c hc
  rw [show 8 - 1 - c = 7 - c by omega, show 0 + 8 * b + c = 8 * b + c by omega] at this
  exact this
/-! ### groatref06_part -/
@[reducible] def groatref06_part.sg : List Shp := [.v (.int .i64), .v (.str), .v (.int .i64), .v (.int .i64)]
@[reducible] def groatref06_part.rs : Rs := .tup [.v (.sl (.int .i64)), .v (.int .i64)]
@[reducible] noncomputable def groatref06_part.code : Code := Try.f103.body.getD .skip
noncomputable def groatref06_part.C : Ctx := ⟨tab, [groatref02_Get.c], [], ⟨[(14, [3, 11, 15, 16], 0), (19, [3, 11, 15, 16, 17, 18, 19], 0)], []⟩⟩
noncomputable def groatref06_part.l0 (n : Nat) (v0 : Int) (v1 : ByteArray) (v2 : List Int) (v3 : Int) : Option ((List Int × Int)) := run groatref06_part.C (finOf groatref06_part.C Try.f103 groatref06_part.rs) n (todoAt 14 groatref06_part.code) ⟨[.junk, .junk, .junk, .int .i64 v0, .junk, .junk, .junk, .junk, .junk, .junk, .junk, .str v1, .junk, .junk, .junk, .sl (some 0) (.int .i64) v2, .int .i64 v3, .junk, .junk, .junk, .junk, .junk, .junk, .junk, .junk, .junk, .junk, .junk, .junk, .junk, .junk, .junk, .junk, .junk, .junk, .junk, .junk, .junk, .junk, .junk, .junk, .junk, .junk, .junk, .junk, .junk, .junk, .junk, .junk, .junk, .junk, .junk, .junk, .junk, .junk, .junk, .junk, .junk, .junk, .junk, .junk, .junk, .junk, .junk, .junk, .junk, .junk, .junk, .junk, .junk, .junk, .junk, .junk, .junk, .junk], [], [true]⟩
noncomputable def groatref06_part.l1 (n : Nat) (v0 : Int) (v1 : ByteArray) (v2 : List Int) (v3 : Int) (v4 : Int) (v5 : Int) (v6 : Int) : Option ((List Int × Int)) := run groatref06_part.C (finOf groatref06_part.C Try.f103 groatref06_part.rs) n (todoAt 19 groatref06_part.code) ⟨[.junk, .junk, .junk, .int .i64 v0, .junk, .junk, .junk, .junk, .junk, .junk, .junk, .str v1, .junk, .junk, .junk, .sl (some 0) (.int .i64) v2, .int .i64 v3, .int .u8 v4, .int .u8 v5, .int .i64 v6, .junk, .junk, .junk, .junk, .junk, .junk, .junk, .junk, .junk, .junk, .junk, .junk, .junk, .junk, .junk, .junk, .junk, .junk, .junk, .junk, .junk, .junk, .junk, .junk, .junk, .junk, .junk, .junk, .junk, .junk, .junk, .junk, .junk, .junk, .junk, .junk, .junk, .junk, .junk, .junk, .junk, .junk, .junk, .junk, .junk, .junk, .junk, .junk, .junk, .junk, .junk, .junk, .junk, .junk, .junk], [], [true]⟩
-- the loop at region 14
theorem groatref06_part.l0_eq (n : Nat) (v0 : Int) (v1 : ByteArray) (v2 : List Int) (v3 : Int) : groatref06_part.l0 (n + 1) v0 v1 v2 v3 =
  (if v3 < 8 then ((bget v1 v3).bind fun b4 =>
   (groatref06_part.l1 n v0 v1 v2 v3 ((↑(UInt8.toNat b4) : Int)) 128 0))
  else (some ((v2, 0)))) := by kernel_rfl
-- the loop at region 19
theorem groatref06_part.l1_eq (n : Nat) (v0 : Int) (v1 : ByteArray) (v2 : List Int) (v3 : Int) (v4 : Int) (v5 : Int) (v6 : Int) : groatref06_part.l1 (n + 1) v0 v1 v2 v3 v4 v5 v6 =
  (if v6 < 8 then (if v4 ≥ v5 then ((lcat 8 v2 [IntKind.wrap IntKind.i64 (IntKind.wrap IntKind.i64 (v0 + IntKind.wrap IntKind.i64 (8 * v3)) + v6)]).bind fun b5 =>
    (groatref06_part.l1 n v0 v1 b5 v3 (IntKind.wrap IntKind.u8 (v4 - v5)) (IntKind.wrap IntKind.u8 (Int.tdiv v5 2)) (IntKind.wrap IntKind.i64 (v6 + 1))))
   else (groatref06_part.l1 n v0 v1 v2 v3 v4 (IntKind.wrap IntKind.u8 (Int.tdiv v5 2)) (IntKind.wrap IntKind.i64 (v6 + 1))))
  else (groatref06_part.l0 n v0 v1 v2 (IntKind.wrap IntKind.i64 (v3 + 1)))) := by kernel_rfl
theorem groatref06_part.eq (n : Nat) (a0 : Int) (a1 : ByteArray) (a2 : Int) (a3 : Int) : call groatref06_part.C Try.f103 groatref06_part.code groatref06_part.sg groatref06_part.rs n (a0, (a1, (a2, a3))) =
  (if a0 = 1 then (if IntKind.wrap IntKind.i64 ((↑(ByteArray.size a1) : Int) - a2) < 16 then (some (([], 2)))
   else ((ssub a1 a2 (IntKind.wrap IntKind.i64 (a2 + 16))).bind fun b0 =>
    (if a0 = 1 then ((groatref02_Get.f b0).bind fun b1 =>
     (if ¬Prod.snd (Prod.snd b1) = true then (some (([], 3)))
     else (groatref06_part.l0 n a3 (Prod.fst b1) [] 0)))
    else (groatref06_part.l0 n a3 b0 [] 0))))
  else (if IntKind.wrap IntKind.i64 ((↑(ByteArray.size a1) : Int) - a2) < 8 then (some (([], 2)))
   else ((ssub a1 a2 (IntKind.wrap IntKind.i64 (a2 + 8))).bind fun b2 =>
    (if a0 = 1 then ((groatref02_Get.f b2).bind fun b3 =>
     (if ¬Prod.snd (Prod.snd b3) = true then (some (([], 3)))
     else (groatref06_part.l0 n a3 (Prod.fst b3) [] 0)))
    else (groatref06_part.l0 n a3 b2 [] 0))))) := by kernel_rfl
def groatref06_part.f (x : Int × ByteArray × Int × Int) : Option (List Int × Int) :=
  if x.2.1.size ≤ 70368744177664 ∧ (0 ≤ x.2.2.1 ∧ x.2.2.1 ≤ x.2.1.size) ∧ 0 ≤ x.2.2.2 ∧ x.2.2.2 ≤ 1000 then
    some (if (bitTake x.1 (bl x.2.1) x.2.2.1.toNat).2.2 = 0 then (nlst (nat8 (bitTake x.1 (bl x.2.1) x.2.2.1.toNat).1) x.2.2.2.toNat, 0) else ([], (bitTake x.1 (bl x.2.1) x.2.2.1.toNat).2.2)) else none
theorem groatref06_part (s : Int) (l : List UInt8) (hl : l.length ≤ 70368744177664) (a : Nat) (ha : a ≤ l.length) (i : Nat) (hi : i ≤ 1000) :
    groatref06_part.f (s, sb l, (a : Int), (i : Int)) = some (if (bitTake s l a).2.2 = 0 then (nlst (nat8 (bitTake s l a).1) i, 0) else ([], (bitTake s l a).2.2)) := by
  unfold groatref06_part.f
  rw [if_pos (by simp only [size_sb]; omega)]; rfl
theorem groatref06_part_l (l : List UInt8) (hl : l.length = 8) (s : Nat) (hs : s ≤ 1000) : ∀ (d k b c : Nat), (b = 8 ∧ c = 0 ∧ d = 0) ∨ (b < 8 ∧ c ≤ 8 ∧ 9 * b + c + d = 72) → 2 * d < k →
    (c = 0 → groatref06_part.l0 (k + 1) (s : Int) (sb l) (lst (fun n => (nat8 l).testBit (63 - (n - s))) s (8 * b)) (b : Int) = some (nlst (nat8 l) s, 0)) ∧
    (∀ a : UInt8, l[b]? = some a → groatref06_part.l1 k (s : Int) (sb l) (lst (fun n => (nat8 l).testBit (63 - (n - s))) s (8 * b + c)) (b : Int) ((a.toNat % 2 ^ (8 - c) : Nat) : Int) ((2 ^ (8 - c) / 2 : Nat) : Int) (c : Int) = some (nlst (nat8 l) s, 0)) := by
  intro d
  induction d with
  | zero =>
    intro k b c h hk
    rcases h with ⟨rfl, rfl, -⟩ | h
    · refine ⟨fun _ => ?_, fun a ha => ?_⟩
      · rw [groatref06_part.l0_eq, if_neg (by decide)]; rfl
      · rw [List.getElem?_eq_none (by omega)] at ha; cases ha
    · omega
  | succ d ih =>
    intro k b c h hk
    obtain ⟨hb, hc, hd⟩ : b < 8 ∧ c ≤ 8 ∧ 9 * b + c + (d + 1) = 72 := by omega
    have key : ∀ a : UInt8, l[b]? = some a → groatref06_part.l1 k (s : Int) (sb l) (lst (fun n => (nat8 l).testBit (63 - (n - s))) s (8 * b + c)) (b : Int) ((a.toNat % 2 ^ (8 - c) : Nat) : Int) ((2 ^ (8 - c) / 2 : Nat) : Int) (c : Int) = some (nlst (nat8 l) s, 0) := by
      intro a ha
      obtain ⟨k, rfl⟩ : ∃ m, k = m + 1 := ⟨k - 1, by omega⟩
      rw [groatref06_part.l1_eq]
      by_cases h8 : c < 8
      · obtain ⟨f1, f2, f3, f4⟩ := bits256 ⟨a.toNat, u8_lt a⟩ ⟨c, h8⟩
        simp only at f1 f2 f3 f4
        have w : IntKind.wrap .i64 (IntKind.wrap .i64 ((s : Int) + IntKind.wrap .i64 (8 * (b : Int))) + (c : Int)) = ((s + (8 * b + c) : Nat) : Int) := by
          rw [wrap_id (x := 8 * (b : Int)) (by omega) (by omega), wrap_id (x := (s : Int) + 8 * (b : Int)) (by omega) (by omega), wrap_id (by omega) (by omega)]; omega
        have bb := byte_bit hl b c hb h8 a ha
        have := (ih k b (c + 1) (.inr ⟨hb, by omega, by omega⟩) (by omega)).2 a ha
        rw [← Nat.add_assoc (8 * b) c 1, lst_snoc, show s + (8 * b + c) - s = 8 * b + c by omega, ← bb] at this
        rw [if_pos (by omega), f4, wrap_succ (by omega), w]
        have hlen := lst_length (fun n => (nat8 l).testBit (63 - (n - s))) s (8 * b + c)
        by_cases hx : a.toNat.testBit (7 - c) = true
        · rw [if_pos hx] at this
          rw [if_pos (f1.2 hx), f2 hx, lcat_ok _ _ _ (by simp only [List.length_cons, List.length_nil]; omega), Option.bind_some]; exact this
        · rw [if_neg hx, List.append_nil] at this
          rw [if_neg (fun e => hx (f1.1 e)), f3 (Bool.eq_false_iff.2 hx)]; exact this
      · obtain rfl : c = 8 := by omega
        rw [if_neg (by omega), wrap_succ (by omega), show 8 * b + 8 = 8 * (b + 1) by omega]
        obtain ⟨k, rfl⟩ : ∃ m, k = m + 1 := ⟨k - 1, by omega⟩
        rcases Nat.lt_or_ge (b + 1) 8 with hb1 | hb1
        · exact (ih k (b + 1) 0 (.inr ⟨hb1, by omega, by omega⟩) (by omega)).1 rfl
        · have hb' : b + 1 = 8 := by omega
          rw [hb', groatref06_part.l0_eq, if_neg (by decide)]; rfl
    refine ⟨fun h0 => ?_, key⟩
    subst h0
    have hlt : b < l.length := by omega
    rw [groatref06_part.l0_eq, if_pos (by omega), bget_sb _ _ hlt, Option.bind_some]
    have := key l[b] (List.getElem?_eq_getElem hlt)
    have hz := u8_lt l[b]
    rw [show l[b].toNat % 2 ^ (8 - 0) = l[b].toNat from Nat.mod_eq_of_lt hz] at this
    exact this
theorem groatref06_part_run (l : List UInt8) (hl : l.length = 8) (s : Nat) (hs : s ≤ 1000) : groatref06_part.l0 146 (s : Int) (sb l) [] 0 = some (nlst (nat8 l) s, 0) :=
  (groatref06_part_l l hl s hs 72 145 0 0 (.inr ⟨by omega, by omega, by omega⟩) (by omega)).1 rfl
theorem groatref06_part.run (s : Int) (l : List UInt8) (hl : l.length ≤ 70368744177664) (a : Nat) (ha : a ≤ l.length) (i : Nat) (hi : i ≤ 1000) :
    call groatref06_part.C Try.f103 groatref06_part.code groatref06_part.sg groatref06_part.rs 146 (s, sb l, (a : Int), (i : Int)) = some (if (bitTake s l a).2.2 = 0 then (nlst (nat8 (bitTake s l a).1) i, 0) else ([], (bitTake s l a).2.2)) := by
  rw [groatref06_part.eq]
  simp only [size_sb]
  rw [wrap_id (x := (l.length : Int) - (a : Int)) (by omega) (by omega)]
  have w16 : IntKind.wrap .i64 ((a : Int) + 16) = ((a + 16 : Nat) : Int) := by rw [wrap_id (by omega) (by omega)]; omega
  have w8 : IntKind.wrap .i64 ((a : Int) + 8) = ((a + 8 : Nat) : Int) := by rw [wrap_id (by omega) (by omega)]; omega
  have hT := bitTake_len s l a
  rw [w16, w8]
  unfold bitTake at hT ⊢
  by_cases h1 : s = 1
  · simp only [if_pos h1] at hT ⊢
    by_cases h2 : l.length < a + 16
    · rw [if_pos (by omega), if_pos h2]; rfl
    · rw [if_neg h2] at hT
      rw [if_neg (by omega), if_neg h2, ssub_sb _ _ _ (by omega) (by omega), Option.bind_some, List.drop_take, show a + 16 - a = 16 by omega, groatref02_Get _ (by rw [List.length_take]; omega), Option.bind_some]
      by_cases h3 : (hexGet ((l.drop a).take 16)).2.2 = true
      · rw [if_pos h3] at hT
        rw [if_neg (by simp [h3]), if_pos h3, groatref06_part_run _ hT i hi]; rfl
      · rw [if_pos (by simpa using h3), if_neg h3]; rfl
  · simp only [if_neg h1] at hT ⊢
    by_cases h2 : l.length < a + 8
    · rw [if_pos (by omega), if_pos h2]; rfl
    · rw [if_neg h2] at hT
      rw [if_neg (by omega), if_neg h2, ssub_sb _ _ _ (by omega) (by omega), Option.bind_some, List.drop_take, show a + 8 - a = 8 by omega, groatref06_part_run _ hT i hi]; rfl
noncomputable def groatref06_part.c : Con := ⟨103, groatref06_part.sg, groatref06_part.rs, groatref06_part.f⟩
theorem groatref06_part.con : ConOk Try.prog groatref06_part.c := walked (C := groatref06_part.C) rfl (by kernel_rfl) (by kernel_rfl) (by kernel_rfl) rfl ⟨groatref02_Get.con, trivial⟩ fun ⟨s, st, a, i⟩ y h => by
  obtain ⟨l, rfl⟩ := ex_sb st
  have h : groatref06_part.f (s, sb l, a, i) = some y := h
  unfold groatref06_part.f at h
  split at h
  · rename_i hc
    simp only [size_sb] at hc
    dsimp only at hc h
    obtain ⟨a, rfl⟩ := Int.eq_ofNat_of_zero_le hc.2.1.1
    obtain ⟨i, rfl⟩ := Int.eq_ofNat_of_zero_le hc.2.2.1
    exact ⟨146, (groatref06_part.run s l hc.1 a (by omega) i (by omega)).trans h⟩
  · cases h
/-! ### Put -/
def rawR (L : List Int) : List UInt8 := if hor (isIn L) 65 64 = 0 then be8 (hor (isIn L) 1 64) else be8 (hor (isIn ([1] ++ L)) 1 64) ++ be8 (hor (isIn L) 65 64)
def refPut (s : Int) (L : List Int) : List UInt8 × Bool := if ¬ (s = 1 ∨ s = 2) ∨ (1 : Int) ∈ L then ([], false) else (enc8 s (rawR L), true)
theorem rawR_length (L : List Int) : (rawR L).length ≤ 16 := by unfold rawR; split <;> simp [be8_length]
/-! ### groatref06_Put -/
@[reducible] def groatref06_Put.sg : List Shp := [.v (.int .i64), .v (.sl (.int .i64))]
@[reducible] def groatref06_Put.rs : Rs := .tup [.v (.str), .v (.bool)]
@[reducible] noncomputable def groatref06_Put.code : Code := Try.f48.body.getD .skip
noncomputable def groatref06_Put.C : Ctx := ⟨tab, [groatref05_In.c, groatref06_bytes.c, groatref02_Put.c], [], ⟨[(5, [0, 1, 6, 7], 0)], []⟩⟩
noncomputable def groatref06_Put.l0 (n : Nat) (v0 : Int) (v1 : List Int) (v2 : Bool) (v3 : Int) : Option ((ByteArray × Bool)) := run groatref06_Put.C (finOf groatref06_Put.C Try.f48 groatref06_Put.rs) n (todoAt 5 groatref06_Put.code) ⟨[.int .i64 v0, .sl none (.int .i64) v1, .junk, .junk, .junk, .junk, .b v2, .int .i64 v3, .junk, .junk, .junk, .junk, .junk, .junk, .junk, .junk, .junk, .junk, .junk, .junk, .junk, .junk, .junk, .junk, .junk, .junk, .junk, .junk, .junk, .junk, .junk, .junk, .junk, .junk, .junk, .junk, .junk, .junk, .junk, .junk, .junk, .junk, .junk, .junk], [], []⟩
-- the loop at region 5
theorem groatref06_Put.l0_eq (n : Nat) (v0 : Int) (v1 : List Int) (v2 : Bool) (v3 : Int) : groatref06_Put.l0 (n + 1) v0 v1 v2 v3 =
  (if v3 ≤ 128 then (if v2 = true then (groatref06_Put.l0 n v0 v1 true (IntKind.wrap IntKind.i64 (v3 + 1)))
   else ((groatref05_In.f (v1, v3)).bind fun b2 =>
    (groatref06_Put.l0 n v0 v1 (decide (b2 = true)) (IntKind.wrap IntKind.i64 (v3 + 1)))))
  else ((groatref06_bytes.f (v1, 1)).bind fun b3 =>
   (if v2 = true then ((lcat 8 [1] v1).bind fun b4 =>
    ((groatref06_bytes.f (b4, 1)).bind fun b5 =>
    ((groatref06_bytes.f (v1, 65)).bind fun b6 =>
    ((scat b5 b6).bind fun b7 =>
    (if v0 = 1 then ((groatref02_Put.f b7).bind fun b8 =>
     (some ((b8, true))))
    else (some ((b7, true))))))))
   else (if v0 = 1 then ((groatref02_Put.f b3).bind fun b9 =>
     (some ((b9, true))))
    else (some ((b3, true))))))) := by kernel_rfl
theorem groatref06_Put.eq (n : Nat) (a0 : Int) (a1 : List Int) : call groatref06_Put.C Try.f48 groatref06_Put.code groatref06_Put.sg groatref06_Put.rs n (a0, a1) =
  (if ¬a0 = 1 then (if ¬a0 = 2 then (some ((ByteArray.mk #[], false)))
   else ((groatref05_In.f (a1, 1)).bind fun b0 =>
    (if b0 = true then (some ((ByteArray.mk #[], false)))
    else (groatref06_Put.l0 n a0 a1 false 65))))
  else ((groatref05_In.f (a1, 1)).bind fun b1 =>
   (if b1 = true then (some ((ByteArray.mk #[], false)))
   else (groatref06_Put.l0 n a0 a1 false 65)))) := by kernel_rfl
def groatref06_Put.f (x : Int × List Int) : Option (ByteArray × Bool) := if x.2.length ≤ 999999 then some (sb (refPut x.1 x.2).1, (refPut x.1 x.2).2) else none
theorem groatref06_Put (s : Int) (L : List Int) (hL : L.length ≤ 999999) : groatref06_Put.f (s, L) = some (sb (refPut s L).1, (refPut s L).2) := if_pos hL
theorem groatref06_Put_l (s : Int) (L : List Int) (hL : L.length ≤ 999999) : ∀ (d k c : Nat), c + d = 64 → d < k →
    groatref06_Put.l0 k s L (decide (hor (isIn L) 65 c ≠ 0)) ((65 + c : Nat) : Int) = some (sb (enc8 s (rawR L)), true)
  | 0, k, c, hc, hk => by
    obtain ⟨k, rfl⟩ : ∃ m, k = m + 1 := ⟨k - 1, by omega⟩
    obtain rfl : c = 64 := by omega
    have b1 := groatref06_bytes L (by omega) 1 (by omega)
    have b65 := groatref06_bytes L (by omega) 65 (by omega)
    have b2 := groatref06_bytes ([1] ++ L) (by simp only [List.length_append, List.length_cons, List.length_nil]; omega) 1 (by omega)
    have hp := groatref02_Put (rawR L) (by have := rawR_length L; omega)
    rw [groatref06_Put.l0_eq, if_neg (by decide), show (1 : Int) = ((1 : Nat) : Int) from rfl, show (65 : Int) = ((65 : Nat) : Int) from rfl, b1, Option.bind_some]
    unfold rawR enc8 at *
    by_cases h0 : hor (isIn L) 65 64 = 0
    · rw [if_pos h0] at hp ⊢
      rw [if_neg (by simp [h0]), hp]
      by_cases h1 : s = 1
      · rw [if_pos h1, if_pos (show s = ((1 : Nat) : Int) from h1)]; rfl
      · rw [if_neg h1, if_neg (show ¬ s = ((1 : Nat) : Int) from h1)]
    · rw [if_neg h0] at hp ⊢
      rw [if_pos (by simp [h0]), lcat_ok _ _ _ (by simp only [List.length_cons, List.length_nil]; omega), Option.bind_some]
      rw [show [((1 : Nat) : Int)] = [1] from rfl, b2, Option.bind_some, b65, Option.bind_some, scat_sb _ _ (by rw [be8_length, be8_length]; omega), Option.bind_some, hp]
      by_cases h1 : s = 1
      · rw [if_pos h1, if_pos (show s = ((1 : Nat) : Int) from h1)]; rfl
      · rw [if_neg h1, if_neg (show ¬ s = ((1 : Nat) : Int) from h1)]
  | d + 1, k, c, hc, hk => by
    obtain ⟨k, rfl⟩ : ∃ m, k = m + 1 := ⟨k - 1, by omega⟩
    have ih := groatref06_Put_l s L hL d k (c + 1) (by omega) (by omega)
    rw [groatref06_Put.l0_eq, if_pos (by omega), groatref05_In L (by omega), Option.bind_some, wrap_succ (by omega)]
    by_cases h0 : hor (isIn L) 65 c = 0
    · rw [if_neg (by simp [h0])]
      have e : decide (hor (isIn L) 65 (c + 1) ≠ 0) = decide (decide (((65 + c : Nat) : Int) ∈ L) = true) := by
        rw [hor, h0]
        show decide (2 * 0 + (decide (((65 + c : Nat) : Int) ∈ L)).toNat ≠ 0) = _
        cases decide (((65 + c : Nat) : Int) ∈ L) <;> rfl
      rw [e] at ih
      exact ih
    · rw [if_pos (by simp [h0])]
      have e : decide (hor (isIn L) 65 (c + 1) ≠ 0) = true := decide_eq_true (by rw [hor]; omega)
      rw [e] at ih
      exact ih
noncomputable def groatref06_Put.c : Con := ⟨48, groatref06_Put.sg, groatref06_Put.rs, groatref06_Put.f⟩
theorem groatref06_Put.con : ConOk Try.prog groatref06_Put.c := walked (C := groatref06_Put.C) rfl (by kernel_rfl) (by kernel_rfl) (by kernel_rfl) rfl ⟨groatref05_In.con, groatref06_bytes.con, groatref02_Put.con, trivial⟩ fun ⟨s, L⟩ y h => by
  have h : groatref06_Put.f (s, L) = some y := h
  unfold groatref06_Put.f at h
  split at h
  · rename_i hc
    dsimp only at hc h
    refine ⟨65, ?_⟩
    have hrun := groatref06_Put_l s L hc 64 65 0 (by omega) (by omega)
    rw [show (decide (hor (isIn L) 65 0 ≠ 0)) = false from rfl] at hrun
    have hrun : groatref06_Put.l0 65 s L false 65 = _ := hrun
    rw [groatref06_Put.eq, groatref05_In L (by omega), Option.bind_some, hrun, ← h]
    unfold refPut
    by_cases h1 : (1 : Int) ∈ L
    · rw [if_pos (show ¬ (s = 1 ∨ s = 2) ∨ (1 : Int) ∈ L from .inr h1)]
      simp [h1, empty_sb]
    · by_cases h2 : s = 1
      · rw [if_neg (show ¬ (¬ (s = 1 ∨ s = 2) ∨ (1 : Int) ∈ L) from fun e => e.elim (fun e => e (.inl h2)) h1), if_neg (by simp [h2]), if_neg (by simp [h1])]
      · rw [if_pos h2]
        by_cases h3 : s = 2
        · rw [if_neg (show ¬ (¬ (s = 1 ∨ s = 2) ∨ (1 : Int) ∈ L) from fun e => e.elim (fun e => e (.inr h3)) h1), if_neg (by simp [h3]), if_neg (by simp [h1])]
        · rw [if_pos (show ¬ (s = 1 ∨ s = 2) ∨ (1 : Int) ∈ L from .inl fun e => e.elim h2 h3), if_pos h3]; rfl
  · cases h
/-! ### groatref06_Get -/
@[reducible] def groatref06_Get.sg : List Shp := [.v (.int .i64), .v (.str), .v (.int .i64)]
@[reducible] def groatref06_Get.rs : Rs := .tup [.v (.sl (.int .i64)), .v (.int .i64), .v (.int .i64)]
@[reducible] noncomputable def groatref06_Get.code : Code := Try.f72.body.getD .skip
noncomputable def groatref06_Get.C : Ctx := ⟨tab, [groatref06_part.c], [], ⟨[], [(1, [(28, .bool)]), (9, [(49, .bool)])]⟩⟩
theorem groatref06_Get.eq (n : Nat) (a0 : Int) (a1 : ByteArray) (a2 : Int) : call groatref06_Get.C Try.f72 groatref06_Get.code groatref06_Get.sg groatref06_Get.rs n (a0, (a1, a2)) =
  ((((if ¬a0 = 1 then (if ¬a0 = 2 then (some true)
    else (if a2 < 0 then (some true)
     else (some (decide (a2 > (↑(ByteArray.size a1) : Int))))))
   else (if a2 < 0 then (some true)
    else (some (decide (a2 > (↑(ByteArray.size a1) : Int)))))) : Option Bool)).bind fun b0 =>
  (if b0 = true then (some (([], 0, 1)))
  else (if a0 = 1 then ((groatref06_part.f (a0, a1, a2, 1)).bind fun b1 =>
    (if ¬Prod.snd b1 = 0 then (some (([], 0, Prod.snd b1)))
    else ((((if (↑(List.length (Prod.fst b1)) : Int) = 0 then (some true)
      else ((lget (Prod.fst b1) 0).bind fun b2 =>
       (some (decide ¬b2 = 1)))) : Option Bool)).bind fun b3 =>
     (if b3 = true then (some ((Prod.fst b1, IntKind.wrap IntKind.i64 (a2 + 16), 0)))
     else ((groatref06_part.f (a0, a1, IntKind.wrap IntKind.i64 (a2 + 16), 65)).bind fun b4 =>
      (if ¬Prod.snd b4 = 0 then (some (([], 0, Prod.snd b4)))
      else (if (↑(List.length (Prod.fst b4)) : Int) = 0 then (some (([], 0, 8)))
       else ((lsub (Prod.fst b1) 1 (↑(List.length (Prod.fst b1)) : Int)).bind fun b5 =>
        ((lcat 8 [] b5).bind fun b6 =>
        ((lcat 8 b6 (Prod.fst b4)).bind fun b7 =>
        (some ((b7, IntKind.wrap IntKind.i64 (a2 + 32), 0)))))))))))))
   else ((groatref06_part.f (a0, a1, a2, 1)).bind fun b8 =>
    (if ¬Prod.snd b8 = 0 then (some (([], 0, Prod.snd b8)))
    else ((((if (↑(List.length (Prod.fst b8)) : Int) = 0 then (some true)
      else ((lget (Prod.fst b8) 0).bind fun b9 =>
       (some (decide ¬b9 = 1)))) : Option Bool)).bind fun b10 =>
     (if b10 = true then (some ((Prod.fst b8, IntKind.wrap IntKind.i64 (a2 + 8), 0)))
     else ((groatref06_part.f (a0, a1, IntKind.wrap IntKind.i64 (a2 + 8), 65)).bind fun b11 =>
      (if ¬Prod.snd b11 = 0 then (some (([], 0, Prod.snd b11)))
      else (if (↑(List.length (Prod.fst b11)) : Int) = 0 then (some (([], 0, 8)))
       else ((lsub (Prod.fst b8) 1 (↑(List.length (Prod.fst b8)) : Int)).bind fun b12 =>
        ((lcat 8 [] b12).bind fun b13 =>
        ((lcat 8 b13 (Prod.fst b11)).bind fun b14 =>
        (some ((b14, IntKind.wrap IntKind.i64 (a2 + 16), 0)))))))))))))))) := by kernel_rfl
noncomputable def groatref06_Get.f : El (sgTy groatref06_Get.sg) → Option (El groatref06_Get.rs.ty) := fun x => match x with
  | (a0, (a1, a2)) =>
  ((((if ¬a0 = 1 then (if ¬a0 = 2 then (some true)
    else (if a2 < 0 then (some true)
     else (some (decide (a2 > (↑(ByteArray.size a1) : Int))))))
   else (if a2 < 0 then (some true)
    else (some (decide (a2 > (↑(ByteArray.size a1) : Int)))))) : Option Bool)).bind fun b0 =>
  (if b0 = true then (some (([], 0, 1)))
  else (if a0 = 1 then ((groatref06_part.f (a0, a1, a2, 1)).bind fun b1 =>
    (if ¬Prod.snd b1 = 0 then (some (([], 0, Prod.snd b1)))
    else ((((if (↑(List.length (Prod.fst b1)) : Int) = 0 then (some true)
      else ((lget (Prod.fst b1) 0).bind fun b2 =>
       (some (decide ¬b2 = 1)))) : Option Bool)).bind fun b3 =>
     (if b3 = true then (some ((Prod.fst b1, IntKind.wrap IntKind.i64 (a2 + 16), 0)))
     else ((groatref06_part.f (a0, a1, IntKind.wrap IntKind.i64 (a2 + 16), 65)).bind fun b4 =>
      (if ¬Prod.snd b4 = 0 then (some (([], 0, Prod.snd b4)))
      else (if (↑(List.length (Prod.fst b4)) : Int) = 0 then (some (([], 0, 8)))
       else ((lsub (Prod.fst b1) 1 (↑(List.length (Prod.fst b1)) : Int)).bind fun b5 =>
        ((lcat 8 [] b5).bind fun b6 =>
        ((lcat 8 b6 (Prod.fst b4)).bind fun b7 =>
        (some ((b7, IntKind.wrap IntKind.i64 (a2 + 32), 0)))))))))))))
   else ((groatref06_part.f (a0, a1, a2, 1)).bind fun b8 =>
    (if ¬Prod.snd b8 = 0 then (some (([], 0, Prod.snd b8)))
    else ((((if (↑(List.length (Prod.fst b8)) : Int) = 0 then (some true)
      else ((lget (Prod.fst b8) 0).bind fun b9 =>
       (some (decide ¬b9 = 1)))) : Option Bool)).bind fun b10 =>
     (if b10 = true then (some ((Prod.fst b8, IntKind.wrap IntKind.i64 (a2 + 8), 0)))
     else ((groatref06_part.f (a0, a1, IntKind.wrap IntKind.i64 (a2 + 8), 65)).bind fun b11 =>
      (if ¬Prod.snd b11 = 0 then (some (([], 0, Prod.snd b11)))
      else (if (↑(List.length (Prod.fst b11)) : Int) = 0 then (some (([], 0, 8)))
       else ((lsub (Prod.fst b8) 1 (↑(List.length (Prod.fst b8)) : Int)).bind fun b12 =>
        ((lcat 8 [] b12).bind fun b13 =>
        ((lcat 8 b13 (Prod.fst b11)).bind fun b14 =>
        (some ((b14, IntKind.wrap IntKind.i64 (a2 + 16), 0))))))))))))))))
noncomputable def groatref06_Get.c : Con := ⟨72, groatref06_Get.sg, groatref06_Get.rs, groatref06_Get.f⟩
theorem groatref06_Get.con : ConOk Try.prog groatref06_Get.c := walked (C := groatref06_Get.C) rfl (by kernel_rfl) (by kernel_rfl) (by kernel_rfl) rfl ⟨groatref06_part.con, trivial⟩ fun ⟨a0, ⟨a1, a2⟩⟩ y h => ⟨0, (groatref06_Get.eq 0 a0 a1 a2).trans h⟩
end Go.Proofs.Ytjbhknfdfnilbaa.Xe
