/- What the program's and the reference's functions on tags, lengths and lists of them answer. -/
import Derived.Test.YtkhmdcllookjkaaNga
import Derived.Test.YtkhmdcllookjkaaNga
namespace Go.Proofs.Ytkhmdcllookjkaa.Sp
open Go Go.RowKit
set_option linter.unusedVariables false
set_option linter.unusedSimpArgs false
/-- Two bytes as a number, by an or. -/
theorem or_join (a b : Nat) (ha : a < 256) (hb : b < 256) : Go.bits .or .i64 ((a * 256 : Nat) : Int) (b : Int) = ((256 * a + b : Nat) : Int) := by
  have h1 : (BitVec.ofInt 64 ((a * 256 : Nat) : Int)).toNat = a * 256 := by
    rw [BitVec.ofInt_natCast, BitVec.toNat_ofNat]; exact Nat.mod_eq_of_lt (by omega)
  have h2 : (BitVec.ofInt 64 (b : Int)).toNat = b := by
    rw [BitVec.ofInt_natCast, BitVec.toNat_ofNat]; exact Nat.mod_eq_of_lt (by omega)
  have h3 : a * 256 ||| b = 256 * a + b := by
    have := Nat.two_pow_add_eq_or_of_lt (i := 8) (b := b) (by omega) a
    rw [show a * 256 = 2 ^ 8 * a by omega, ← this]
  show IntKind.i64.wrap ((BitVec.ofInt 64 ((a * 256 : Nat) : Int) ||| BitVec.ofInt 64 (b : Int)).toNat : Int) = _
  rw [BitVec.toNat_or, h1, h2, h3, wrap_nat (by omega)]
theorem wr0 : wrap64 (0 * 256) = ((0 * 256 : Nat) : Int) := by simp [wrap64]
theorem wr1 : wrap64 (0 + 1) = 1 := by simp [wrap64]
theorem wr2 : wrap64 (1 + 1) = 2 := by simp [wrap64]
theorem wr3 : wrap64 (2 + 1) = 3 := by simp [wrap64]
theorem wr129 : wrap64 (((129 : Nat) : Int) - 127) = 2 := by simp [wrap64]
theorem wr130 : wrap64 (((130 : Nat) : Int) - 127) = 3 := by simp [wrap64]
/-- Does a byte begin a tag, and of how many bytes? -/
def tagKind (a : Nat) : Int := if a = 0 ∨ a / 32 % 2 = 1 then 0 else if a % 32 = 31 then 2 else 1
/-- The tag ahead of some bytes that stand at i. -/
def tagR (i : Nat) : List UInt8 → Int × Int × Int
  | [] => (0, 0, 2)
  | a :: m => if tagKind a.toNat = 0 then (0, 0, 13) else if tagKind a.toNat = 1 then ((a.toNat : Int), ((i + 1 : Nat) : Int), 0) else
    match m with
    | [] => (0, 0, 2)
    | b :: _ => if 1 ≤ b.toNat ∧ b.toNat ≤ 127 then (((256 * a.toNat + b.toNat : Nat) : Int), ((i + 2 : Nat) : Int), 0) else (0, 0, 13)
theorem tagR_cons (i : Nat) (a : UInt8) (m : List UInt8) : tagR i (a :: m) = (if tagKind a.toNat = 0 then (0, 0, 13) else if tagKind a.toNat = 1 then ((a.toNat : Int), ((i + 1 : Nat) : Int), 0) else
    match m with
    | [] => (0, 0, 2)
    | b :: _ => if 1 ≤ b.toNat ∧ b.toNat ≤ 127 then (((256 * a.toNat + b.toNat : Nat) : Int), ((i + 2 : Nat) : Int), 0) else (0, 0, 13) : Int × Int × Int) := by cases m <;> rfl
theorem tagKind_cases (a : Nat) : tagKind a = 0 ∨ tagKind a = 1 ∨ tagKind a = 2 := by unfold tagKind; repeat' split
                                                                                      all_goals simp
theorem wrap_byte (a : UInt8) : wrap64 (a.toNat : Int) = (a.toNat : Int) := wrap64_nat (by have := u8_lt a; omega)
theorem wrap_byte256 (a : UInt8) : wrap64 ((a.toNat : Int) * 256) = ((a.toNat * 256 : Nat) : Int) := by
  have := u8_lt a
  have e : ((a.toNat : Int) * 256) = ((a.toNat * 256 : Nat) : Int) := by omega
  rw [e, wrap64_nat (by omega)]
theorem wrap_256byte (a b : UInt8) : wrap64 (wrap64 (256 * (a.toNat : Int)) + (b.toNat : Int)) = ((256 * a.toNat + b.toNat : Nat) : Int) := by
  have := u8_lt a
  have := u8_lt b
  have e : (256 * (a.toNat : Int)) = ((256 * a.toNat : Nat) : Int) := by omega
  have e2 : (((256 * a.toNat : Nat) : Int) + (b.toNat : Int)) = ((256 * a.toNat + b.toNat : Nat) : Int) := by omega
  rw [e, wrap64_nat (by omega), e2, wrap64_nat (by omega)]
theorem or_bytes (a b : UInt8) : Go.bits .or .i64 (wrap64 ((wrap64 (a.toNat : Int)) * 256)) (wrap64 (b.toNat : Int)) = ((256 * a.toNat + b.toNat : Nat) : Int) := by
  rw [wrap_byte, wrap_byte, wrap_byte256, or_join _ _ (u8_lt a) (u8_lt b)]
theorem tagR_ok (i : Nat) (m : List UInt8) (hm : m.length ≤ 140737488351232) {t n e : Int} (h : tagR i m = (t, n, e)) (he : e = 0) : (0 ≤ t ∧ t ≤ 65535) ∧ ∃ w : Nat, 1 ≤ w ∧ w ≤ m.length ∧ n = ((i + w : Nat) : Int) := by
  subst he
  cases m with
  | nil => simp [tagR] at h
  | cons a m =>
    have ha := u8_lt a
    rw [tagR_cons] at h
    split at h
    · simp at h
    · split at h
      · simp only [Prod.mk.injEq] at h
        obtain ⟨rfl, rfl, -⟩ := h
        exact ⟨⟨by omega, by omega⟩, 1, by omega, by simp, rfl⟩
      · cases m with
        | nil => simp at h
        | cons b m =>
          have hb := u8_lt b
          dsimp only at h
          split at h
          · simp only [Prod.mk.injEq] at h
            obtain ⟨rfl, rfl, -⟩ := h
            exact ⟨⟨by omega, by omega⟩, 2, by omega, by simp, rfl⟩
          · simp at h
/-- The length ahead of some bytes that stand at i. -/
def berR (i : Nat) : List UInt8 → Int × Int × Int
  | [] => (0, 0, 2)
  | a :: m => if a.toNat ≤ 127 then ((a.toNat : Int), ((i + 1 : Nat) : Int), 0) else if a.toNat = 128 ∨ 130 < a.toNat then (0, 0, 14) else if m.length < a.toNat - 128 then (0, 0, 2) else if a.toNat = 129 then (if (m.getD 0 0).toNat ≤ 127 then (0, 0, 14) else (((m.getD 0 0).toNat : Int), ((i + 2 : Nat) : Int), 0)) else (if (m.getD 0 0).toNat = 0 then (0, 0, 14) else (((256 * (m.getD 0 0).toNat + (m.getD 1 0).toNat : Nat) : Int), ((i + 3 : Nat) : Int), 0))
theorem or_zero (b : UInt8) : Go.bits .or .i64 (wrap64 (0 * 256)) (wrap64 (b.toNat : Int)) = (b.toNat : Int) := by
  have h := or_join 0 b.toNat (by decide) (u8_lt b)
  rw [wrap_byte, wr0, h, Nat.mul_zero, Nat.zero_add]
theorem or_two (a b : UInt8) : Go.bits .or .i64 (wrap64 ((a.toNat : Int) * 256)) (wrap64 (b.toNat : Int)) = ((256 * a.toNat + b.toNat : Nat) : Int) := by
  rw [wrap_byte, wrap_byte256, or_join _ _ (u8_lt a) (u8_lt b)]
theorem berR_ok (i : Nat) (m : List UInt8) (hm : m.length ≤ 140737488351232) {t n e : Int} (h : berR i m = (t, n, e)) (he : e = 0) : (0 ≤ t ∧ t ≤ 65535) ∧ ∃ w : Nat, 1 ≤ w ∧ w ≤ m.length ∧ n = ((i + w : Nat) : Int) := by
  subst he
  cases m with
  | nil => simp [berR] at h
  | cons a m =>
    have ha := u8_lt a
    rw [berR] at h
    split at h
    · simp only [Prod.mk.injEq] at h
      obtain ⟨rfl, rfl, -⟩ := h
      exact ⟨⟨by omega, by omega⟩, 1, by omega, by simp, rfl⟩
    · split at h
      · simp at h
      · split at h
        · simp at h
        · split at h
          · split at h
            · simp at h
            · simp only [Prod.mk.injEq] at h
              obtain ⟨rfl, rfl, -⟩ := h
              have := u8_lt (m.getD 0 0)
              exact ⟨⟨by omega, by omega⟩, 2, by omega, by rw [List.length_cons]; omega, rfl⟩
          · split at h
            · simp at h
            · simp only [Prod.mk.injEq] at h
              obtain ⟨rfl, rfl, -⟩ := h
              have := u8_lt (m.getD 0 0)
              have := u8_lt (m.getD 1 0)
              exact ⟨⟨by omega, by omega⟩, 3, by omega, by rw [List.length_cons]; omega, rfl⟩
end Go.Proofs.Ytkhmdcllookjkaa.Sp
