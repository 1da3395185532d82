/- What the program's and the reference's functions on tags, lengths and lists of them answer. -/
import Derived.Test.YtfaeodcapagjbaaBa
import Derived.Test.YtfaeodcapagjbaaBa2
import Derived.Test.YtfaeodcapagjbaaPx11
import Derived.Test.YtfaeodcapagjbaaPx2
namespace Go.Proofs.Ytfaeodcapagjbaa.Sp
open Go.RowKit Go.Proofs.YtfaeodcapagjbaaW.PrintWords Go.Proofs.YtfaeodcapagjbaaW.PrintLast Go.Proofs.YtfaeodcapagjbaaW.PrintMore Go.Proofs.Ytfaeodcapagjbaa.P
set_option linter.unusedVariables false
set_option linter.unusedSimpArgs false
/-- Two bytes as a number, by an or. -/
theorem or_join (a b : Nat) (ha : a < 256) (hb : b < 256) : Go.bits .or .i64 ((a * 256 : Nat) : Int) (b : Int) = ((256 * a + b : Nat) : Int) := by
  have h1 : (BitVec.ofInt 64 ((a * 256 : Nat) : Int)).toNat = a * 256 := by
    rw [BitVec.ofInt_natCast, BitVec.toNat_ofNat]; exact Nat.mod_eq_of_lt (by omega)
  have h2 : (BitVec.ofInt 64 (b : Int)).toNat = b := by
    rw [BitVec.ofInt_natCast, BitVec.toNat_ofNat]; exact Nat.mod_eq_of_lt (by omega)
  have h3 : a * 256 ||| b = 256 * a + b := by
    have := Nat.two_pow_add_eq_or_of_lt (i := 8) (b := b) (by omega) a
    rw [show a * 256 = 2 ^ 8 * a by omega, ← this]
  show IntKind.i64.wrap ((BitVec.ofInt 64 ((a * 256 : Nat) : Int) ||| BitVec.ofInt 64 (b : Int)).toNat : Int) = _
  rw [BitVec.toNat_or, h1, h2, IntKind.wrap_i64, h3]
  omega
theorem wr0 : wrap64 (0 * 256) = ((0 * 256 : Nat) : Int) := by simp [wrap64]
theorem wr1 : wrap64 (0 + 1) = 1 := by simp [wrap64]
theorem wr2 : wrap64 (1 + 1) = 2 := by simp [wrap64]
theorem wr3 : wrap64 (2 + 1) = 3 := by simp [wrap64]
theorem wr129 : wrap64 (((129 : Nat) : Int) - 127) = 2 := by simp [wrap64]
theorem wr130 : wrap64 (((130 : Nat) : Int) - 127) = 3 := by simp [wrap64]
/-- Does a byte begin a tag, and of how many bytes? -/
def tagKind (a : Nat) : Int := if a = 0 ∨ a / 32 % 2 = 1 then 0 else if a % 32 = 31 then 2 else 1
/-- The tag ahead of some bytes that stand at i. -/
def tagR (i : Nat) : List UInt8 → Int × Int × Int
  | [] => (0, 0, 2)
  | a :: m => if tagKind a.toNat = 0 then (0, 0, 13) else if tagKind a.toNat = 1 then ((a.toNat : Int), ((i + 1 : Nat) : Int), 0) else
    match m with
    | [] => (0, 0, 2)
    | b :: _ => if 1 ≤ b.toNat ∧ b.toNat ≤ 127 then (((256 * a.toNat + b.toNat : Nat) : Int), ((i + 2 : Nat) : Int), 0) else (0, 0, 13)
theorem tagR_cons (i : Nat) (a : UInt8) (m : List UInt8) : tagR i (a :: m) = (if tagKind a.toNat = 0 then (0, 0, 13) else if tagKind a.toNat = 1 then ((a.toNat : Int), ((i + 1 : Nat) : Int), 0) else
    match m with
    | [] => (0, 0, 2)
    | b :: _ => if 1 ≤ b.toNat ∧ b.toNat ≤ 127 then (((256 * a.toNat + b.toNat : Nat) : Int), ((i + 2 : Nat) : Int), 0) else (0, 0, 13) : Int × Int × Int) := by cases m <;> rfl
theorem tag_first256 : ∀ n : Fin 256, tag_first.f (wrap64 ((n.val : Nat) : Int)) = some (decide (tagKind n.val ≠ 0)) ∧ (tagKind n.val ≠ 0 → (Go.bits .and .i64 (wrap64 ((n.val : Nat) : Int)) 31 = 31 ↔ tagKind n.val = 2)) := by decide +kernel
theorem tag_Right256 : ∀ n : Fin 256, tagKind n.val = 2 → ∀ b : Fin 256, tag_Right.f ((256 * n.val + b.val : Nat) : Int) = some (decide (1 ≤ b.val ∧ b.val ≤ 127)) := by decide +kernel
theorem ref_first256 : ∀ n : Fin 256, groatref08_First.f 2 ((n.val : Nat) : Int) = some (tagKind n.val) := by decide +kernel
theorem tagKind_cases (a : Nat) : tagKind a = 0 ∨ tagKind a = 1 ∨ tagKind a = 2 := by unfold tagKind; repeat' split
                                                                                      all_goals simp
theorem wrap_byte (a : UInt8) : wrap64 (a.toNat : Int) = (a.toNat : Int) := wrap64_nat (by have := u8_lt a; omega)
theorem wrap_byte256 (a : UInt8) : wrap64 ((a.toNat : Int) * 256) = ((a.toNat * 256 : Nat) : Int) := by
  have := u8_lt a
  have e : ((a.toNat : Int) * 256) = ((a.toNat * 256 : Nat) : Int) := by omega
  rw [e, wrap64_nat (by omega)]
theorem wrap_256byte (a b : UInt8) : wrap64 (wrap64 (256 * (a.toNat : Int)) + (b.toNat : Int)) = ((256 * a.toNat + b.toNat : Nat) : Int) := by
  have := u8_lt a
  have := u8_lt b
  have e : (256 * (a.toNat : Int)) = ((256 * a.toNat : Nat) : Int) := by omega
  have e2 : (((256 * a.toNat : Nat) : Int) + (b.toNat : Int)) = ((256 * a.toNat + b.toNat : Nat) : Int) := by omega
  rw [e, wrap64_nat (by omega), e2, wrap64_nat (by omega)]
theorem or_bytes (a b : UInt8) : Go.bits .or .i64 (wrap64 ((wrap64 (a.toNat : Int)) * 256)) (wrap64 (b.toNat : Int)) = ((256 * a.toNat + b.toNat : Nat) : Int) := by
  rw [wrap_byte, wrap_byte, wrap_byte256, or_join _ _ (u8_lt a) (u8_lt b)]
theorem tag_Get (l : List UInt8) (hl : l.length ≤ 140737488351232) (i : Nat) (hi : i ≤ l.length) (k : Nat) (hk : 4 < k) : tag_Get.f k (sb l) (i : Int) = some (tagR i (l.drop i)) := by
  obtain ⟨k, rfl⟩ : ∃ m, k = m + 1 := ⟨k - 1, by omega⟩
  have b1 : ¬ (i : Int) < 0 := by omega
  have b2 : ¬ (i : Int) > (l.length : Int) := by omega
  unfold tag_Get.f
  rw [if_neg b1, size_sb, decide_eq_false b2]
  simp only [tag_Get.j0]
  rw [if_neg (by decide), size_sb]
  cases hd : l.drop i with
  | nil =>
    have h : (i : Int) = (l.length : Int) := by have := congrArg List.length hd; rw [List.length_drop] at this; simp at this; omega
    rw [if_pos h]; rfl
  | cons a m =>
    have hlen := len_drop hd
    have b3 : ¬ (i : Int) = (l.length : Int) := by omega
    have b4 : 0 ≤ (i : Int) := by omega
    have b5 : (i : Int) < (l.length : Int) := by omega
    obtain ⟨f1, f2⟩ := tag_first256 ⟨a.toNat, u8_lt a⟩
    have g1 : wrap64 ((i : Int) + 1) = ((i + 1 : Nat) : Int) := wrap64_succ (by omega)
    have g2 : wrap64 ((i : Int) + 2) = ((i + 2 : Nat) : Int) := by rw [show (i : Int) + 2 = ((i + 2 : Nat) : Int) by omega]; exact wrap64_nat (by omega)
    have c1 : ((i + 1 : Nat) : Int) = (l.length : Int) ↔ m = [] := by
      constructor
      · intro h; exact List.eq_nil_of_length_eq_zero (by omega)
      · intro h; rw [h] at hlen; simp at hlen; omega
    have hdrop : ∀ b m', m = b :: m' → l.drop (i + 1) = b :: m' := by intro b m' e; obtain ⟨-, -, h⟩ := drop_cons hd; rw [h, e]
    rw [if_neg b3, if_pos b4, if_pos b5, bt_drop hd, f1, Option.bind_some, g1, g2]
    clear f1
    rcases tagKind_cases a.toNat with h0 | h1 | h2
    · rw [tagR_cons, if_pos h0, if_neg (by simp [h0])]
    · have hne : tagKind a.toNat ≠ 0 := by rw [h1]; decide
      have f3 : ¬ Go.bits .and .i64 (wrap64 (a.toNat : Int)) 31 = 31 := by intro h; rw [f2 hne, h1] at h; exact absurd h (by decide)
      rw [tagR_cons, if_neg hne, if_pos h1, if_pos (decide_eq_true hne), if_neg f3, wrap_byte]
    · have hne : tagKind a.toNat ≠ 0 := by rw [h2]; decide
      have f3 : Go.bits .and .i64 (wrap64 (a.toNat : Int)) 31 = 31 := (f2 hne).2 h2
      have hn1 : tagKind a.toNat ≠ 1 := by rw [h2]; decide
      rw [tagR_cons, if_neg hne, if_neg hn1, if_pos (decide_eq_true hne), if_pos f3]
      clear f3 f2
      cases m with
      | nil => rw [if_pos (c1.2 rfl)]
      | cons b m' =>
        have hd' := hdrop b m' rfl
        have hlen' := len_drop hd'
        have b6 : ¬ ((i + 1 : Nat) : Int) = (l.length : Int) := by omega
        have b7 : 0 ≤ ((i + 1 : Nat) : Int) := by omega
        have b8 : ((i + 1 : Nat) : Int) < (l.length : Int) := by omega
        have f4 := tag_Right256 ⟨a.toNat, u8_lt a⟩ h2 ⟨b.toNat, u8_lt b⟩
        rw [if_neg b6, if_pos b7, if_pos b8, bt_drop hd', or_bytes, f4, Option.bind_some]
        by_cases hb : 1 ≤ b.toNat ∧ b.toNat ≤ 127
        · rw [if_pos (decide_eq_true hb)]; simp only [hb, and_self, if_true]
        · rw [decide_eq_false hb, if_neg (by decide)]; simp only [hb, if_false]
theorem ref08_Get (l : List UInt8) (hl : l.length ≤ 140737488351232) (i : Nat) (hi : i ≤ l.length) (k : Nat) (hk : 4 < k) : groatref08_Get.f k (sb l) (i : Int) = some (tagR i (l.drop i)) := by
  obtain ⟨k, rfl⟩ : ∃ m, k = m + 1 := ⟨k - 1, by omega⟩
  have b1 : ¬ (i : Int) < 0 := by omega
  have b2 : ¬ (i : Int) > (l.length : Int) := by omega
  unfold groatref08_Get.f
  rw [if_neg b1, size_sb, decide_eq_false b2]
  simp only [groatref08_Get.j0]
  rw [if_neg (by decide), size_sb]
  cases hd : l.drop i with
  | nil =>
    have h : (i : Int) = (l.length : Int) := by have := congrArg List.length hd; rw [List.length_drop] at this; simp at this; omega
    rw [if_pos h]; rfl
  | cons a m =>
    have hlen := len_drop hd
    have b3 : ¬ (i : Int) = (l.length : Int) := by omega
    have b4 : 0 ≤ (i : Int) := by omega
    have b5 : (i : Int) < (l.length : Int) := by omega
    have f1 := at_rounds (groatref08_First.mono _) (show 2 ≤ k by omega) (ref_first256 ⟨a.toNat, u8_lt a⟩)
    have g0 : wrap64 ((l.length : Int) - (i : Int)) = ((m.length + 1 : Nat) : Int) := by rw [show (l.length : Int) - (i : Int) = ((m.length + 1 : Nat) : Int) by omega]; exact wrap64_nat (by omega)
    have g1 : wrap64 ((i : Int) + 1) = ((i + 1 : Nat) : Int) := wrap64_succ (by omega)
    have g2 : wrap64 ((i : Int) + 2) = ((i + 2 : Nat) : Int) := by rw [show (i : Int) + 2 = ((i + 2 : Nat) : Int) by omega]; exact wrap64_nat (by omega)
    have hdrop : ∀ b m', m = b :: m' → l.drop (i + 1) = b :: m' := by intro b m' e; obtain ⟨-, -, h⟩ := drop_cons hd; rw [h, e]
    rw [if_neg b3, if_pos b4, if_pos b5, bt_drop hd, f1, Option.bind_some, g0, g1, g2]
    clear f1
    rcases tagKind_cases a.toNat with h0 | h1 | h2
    · rw [tagR_cons, if_pos h0, if_pos h0]
    · have hne : tagKind a.toNat ≠ 0 := by rw [h1]; decide
      rw [tagR_cons, if_neg hne, if_pos h1, if_neg hne, if_pos h1, wrap_byte]
    · have hne : tagKind a.toNat ≠ 0 := by rw [h2]; decide
      have hn1 : tagKind a.toNat ≠ 1 := by rw [h2]; decide
      rw [tagR_cons, if_neg hne, if_neg hn1, if_neg hne, if_neg hn1]
      cases m with
      | nil => rfl
      | cons b m' =>
        have hd' := hdrop b m' rfl
        have hlen' := len_drop hd'
        have b6 : ¬ (((b :: m').length + 1 : Nat) : Int) < 2 := by simp; omega
        have b7 : 0 ≤ ((i + 1 : Nat) : Int) := by omega
        have b8 : ((i + 1 : Nat) : Int) < (l.length : Int) := by omega
        rw [if_neg b6, if_pos b7, if_pos b8, bt_drop hd', wrap_byte, wrap_byte, wrap_256byte]
        by_cases hb : 1 ≤ b.toNat ∧ b.toNat ≤ 127
        · have q1 : ¬ (b.toNat : Int) = 0 := by omega
          have q2 : ¬ (b.toNat : Int) > 127 := by omega
          rw [if_neg q1, if_neg q2]; simp only [hb, and_self, if_true]
        · simp only [hb, if_false]
          by_cases q1 : (b.toNat : Int) = 0
          · rw [if_pos q1]
          · rw [if_neg q1, if_pos (by omega)]
theorem tagR_ok (i : Nat) (m : List UInt8) (hm : m.length ≤ 140737488351232) {t n e : Int} (h : tagR i m = (t, n, e)) (he : e = 0) : (0 ≤ t ∧ t ≤ 65535) ∧ ∃ w : Nat, 1 ≤ w ∧ w ≤ m.length ∧ n = ((i + w : Nat) : Int) := by
  subst he
  cases m with
  | nil => simp [tagR] at h
  | cons a m =>
    have ha := u8_lt a
    rw [tagR_cons] at h
    split at h
    · simp at h
    · split at h
      · simp only [Prod.mk.injEq] at h
        obtain ⟨rfl, rfl, -⟩ := h
        exact ⟨⟨by omega, by omega⟩, 1, by omega, by simp, rfl⟩
      · cases m with
        | nil => simp at h
        | cons b m =>
          have hb := u8_lt b
          dsimp only at h
          split at h
          · simp only [Prod.mk.injEq] at h
            obtain ⟨rfl, rfl, -⟩ := h
            exact ⟨⟨by omega, by omega⟩, 2, by omega, by simp, rfl⟩
          · simp at h
/-- The length ahead of some bytes that stand at i. -/
def berR (i : Nat) : List UInt8 → Int × Int × Int
  | [] => (0, 0, 2)
  | a :: m => if a.toNat ≤ 127 then ((a.toNat : Int), ((i + 1 : Nat) : Int), 0) else if a.toNat = 128 ∨ 130 < a.toNat then (0, 0, 14) else if m.length < a.toNat - 128 then (0, 0, 2) else if a.toNat = 129 then (if (m.getD 0 0).toNat ≤ 127 then (0, 0, 14) else (((m.getD 0 0).toNat : Int), ((i + 2 : Nat) : Int), 0)) else (if (m.getD 0 0).toNat = 0 then (0, 0, 14) else (((256 * (m.getD 0 0).toNat + (m.getD 1 0).toNat : Nat) : Int), ((i + 3 : Nat) : Int), 0))
theorem ber_Size1 (n : Nat) (h : n ≤ 127) (k : Nat) (hk : 0 < k) : ber_Size.f k (n : Int) = some 1 := by
  obtain ⟨k, rfl⟩ : ∃ m, k = m + 1 := ⟨k - 1, by omega⟩
  have b1 : ¬ (n : Int) < 0 := by omega
  have b2 : ¬ (n : Int) > 65535 := by omega
  have b3 : ¬ (n : Int) > 255 := by omega
  have b4 : ¬ (n : Int) > 127 := by omega
  unfold ber_Size.f
  rw [if_neg b1, decide_eq_false b2, ber_Size.j0, if_neg (by decide), if_neg b3, if_neg b4, wr1]
theorem ber_Size2 (n : Nat) (h1 : 127 < n) (h : n ≤ 255) (k : Nat) (hk : 0 < k) : ber_Size.f k (n : Int) = some 2 := by
  obtain ⟨k, rfl⟩ : ∃ m, k = m + 1 := ⟨k - 1, by omega⟩
  have b1 : ¬ (n : Int) < 0 := by omega
  have b2 : ¬ (n : Int) > 65535 := by omega
  have b3 : ¬ (n : Int) > 255 := by omega
  have b4 : (n : Int) > 127 := by omega
  unfold ber_Size.f
  rw [if_neg b1, decide_eq_false b2, ber_Size.j0, if_neg (by decide), if_neg b3, if_pos b4, wr1, wr2]
theorem ber_Size3 (n : Nat) (h1 : 255 < n) (h : n ≤ 65535) (k : Nat) (hk : 0 < k) : ber_Size.f k (n : Int) = some 3 := by
  obtain ⟨k, rfl⟩ : ∃ m, k = m + 1 := ⟨k - 1, by omega⟩
  have b1 : ¬ (n : Int) < 0 := by omega
  have b2 : ¬ (n : Int) > 65535 := by omega
  have b3 : (n : Int) > 255 := by omega
  unfold ber_Size.f
  rw [if_neg b1, decide_eq_false b2, ber_Size.j0, if_neg (by decide), if_pos b3, wr1, wr2, wr3]
theorem or_zero (b : UInt8) : Go.bits .or .i64 (wrap64 (0 * 256)) (wrap64 (b.toNat : Int)) = (b.toNat : Int) := by
  have h := or_join 0 b.toNat (by decide) (u8_lt b)
  rw [wrap_byte, wr0, h, Nat.mul_zero, Nat.zero_add]
theorem or_two (a b : UInt8) : Go.bits .or .i64 (wrap64 ((a.toNat : Int) * 256)) (wrap64 (b.toNat : Int)) = ((256 * a.toNat + b.toNat : Nat) : Int) := by
  rw [wrap_byte, wrap_byte256, or_join _ _ (u8_lt a) (u8_lt b)]
theorem ber_Get (l : List UInt8) (hl : l.length ≤ 140737488351232) (i : Nat) (hi : i ≤ l.length) (k : Nat) (hk : 9 < k) : ber_Get.f k (sb l) (i : Int) = some (berR i (l.drop i)) := by
  obtain ⟨k, rfl⟩ : ∃ m, k = m + 7 := ⟨k - 7, by omega⟩
  have b1 : ¬ (i : Int) < 0 := by omega
  have b2 : ¬ (i : Int) > (l.length : Int) := by omega
  unfold ber_Get.f
  rw [if_neg b1, size_sb, decide_eq_false b2]
  simp only [ber_Get.j0]
  rw [if_neg (by decide), size_sb]
  cases hd : l.drop i with
  | nil =>
    have h : (i : Int) = (l.length : Int) := by have := congrArg List.length hd; rw [List.length_drop] at this; simp at this; omega
    rw [if_pos h]; rfl
  | cons a m =>
    have hlen := len_drop hd
    have ha := u8_lt a
    have b3 : ¬ (i : Int) = (l.length : Int) := by omega
    have b4 : 0 ≤ (i : Int) := by omega
    have b5 : (i : Int) < (l.length : Int) := by omega
    have g1 : wrap64 ((i : Int) + 1) = ((i + 1 : Nat) : Int) := wrap64_succ (by omega)
    have g0 : wrap64 ((l.length : Int) - ((i + 1 : Nat) : Int)) = (m.length : Int) := by rw [show (l.length : Int) - ((i + 1 : Nat) : Int) = ((m.length : Nat) : Int) by omega]; exact wrap64_nat (by omega)
    have hdrop : ∀ b m', m = b :: m' → l.drop (i + 1) = b :: m' := by intro b m' e; obtain ⟨-, -, h⟩ := drop_cons hd; rw [h, e]
    rw [if_neg b3, if_pos b4, if_pos b5, bt_drop hd, wrap_byte, g1, berR]
    by_cases h1 : a.toNat ≤ 127
    · have q1 : ¬ (a.toNat : Int) > 127 := by omega
      have q2 : ¬ (m.length : Int) < 0 := by omega
      have q3 : ¬ (0 : Int) < 0 := by omega
      have q4 : wrap64 (((i + 1 : Nat) : Int) + 0) = ((i + 1 : Nat) : Int) := by rw [Int.add_zero]; exact wrap64_nat (by omega)
      rw [if_pos h1, if_neg q1]
      simp only [ber_Get.j1]
      rw [size_sb, g0, if_neg q2]
      simp only [ber_Get.l0]
      rw [if_neg q3, ber_Size1 _ h1 _ (by omega), Option.bind_some, q4, wr1, if_pos rfl]
    · have q1 : (a.toNat : Int) > 127 := by omega
      rw [if_neg h1, if_pos q1]
      by_cases h2 : a.toNat = 128 ∨ 130 < a.toNat
      · rw [if_pos h2]
        by_cases q2 : (a.toNat : Int) = 128
        · rw [if_pos q2]
        · have q3 : (a.toNat : Int) > 130 := by omega
          rw [if_neg q2, if_pos q3]
      · have q2 : ¬ (a.toNat : Int) = 128 := by omega
        have q3 : ¬ (a.toNat : Int) > 130 := by omega
        rw [if_neg h2, if_neg q2, if_neg q3]
        have hw : wrap64 ((a.toNat : Int) - 128) = ((a.toNat - 128 : Nat) : Int) := by rw [show (a.toNat : Int) - 128 = ((a.toNat - 128 : Nat) : Int) by omega]; exact wrap64_nat (by omega)
        rw [hw]
        simp only [ber_Get.j1]
        rw [size_sb, g0]
        clear hw g0 g1
        by_cases h3 : m.length < a.toNat - 128
        · have q4 : (m.length : Int) < ((a.toNat - 128 : Nat) : Int) := by omega
          rw [if_pos h3, if_pos q4]
        · have q4 : ¬ (m.length : Int) < ((a.toNat - 128 : Nat) : Int) := by omega
          rw [if_neg h3, if_neg q4]
          by_cases h4 : a.toNat = 129
          · rw [if_pos h4, h4]
            rw [h4] at h3
            cases m with
            | nil => simp at h3
            | cons b m' =>
              have hd' := hdrop b m' rfl
              have hlen' := len_drop hd'
              have hb := u8_lt b
              have p0 : wrap64 (((i + 1 : Nat) : Int) + 0) = ((i + 1 : Nat) : Int) := by rw [Int.add_zero]; exact wrap64_nat (by omega)
              have p1 : 0 ≤ ((i + 1 : Nat) : Int) := by omega
              have p2 : ((i + 1 : Nat) : Int) < (l.length : Int) := by omega
              have p3 : wrap64 (((i + 1 : Nat) : Int) + ((129 - 128 : Nat) : Int)) = ((i + 2 : Nat) : Int) := by rw [show ((i + 1 : Nat) : Int) + ((129 - 128 : Nat) : Int) = ((i + 2 : Nat) : Int) by omega]; exact wrap64_nat (by omega)
              simp only [ber_Get.l0]
              rw [if_pos (show (0 : Int) < ((129 - 128 : Nat) : Int) by decide), p0, if_pos p1, size_sb, if_pos p2, bt_drop hd', or_zero, if_neg (show ¬ wrap64 (0 + 1) < ((129 - 128 : Nat) : Int) by rw [wr1]; decide), p3]
              by_cases h5 : b.toNat ≤ 127
              · rw [ber_Size1 _ h5 _ (by omega), Option.bind_some, if_neg (by simp [wrap64])]
                simp [h5]
              · rw [ber_Size2 _ (by omega) (by omega) _ (by omega), Option.bind_some, if_pos (by simp [wrap64])]
                simp [h5]
          · have h5 : a.toNat = 130 := by omega
            rw [if_neg h4, h5]
            rw [h5] at h3
            cases m with
            | nil => simp at h3
            | cons b m' =>
              cases m' with
              | nil => simp at h3
              | cons c m'' =>
                have hd' := hdrop b _ rfl
                have hlen' := len_drop hd'
                have hd'' : l.drop (i + 1 + 1) = c :: m'' := by obtain ⟨-, -, h⟩ := drop_cons hd'; exact h
                have hlen'' := len_drop hd''
                have hb := u8_lt b
                have hc := u8_lt c
                have p1 : 0 ≤ ((i + 1 : Nat) : Int) := by omega
                have p2 : ((i + 1 : Nat) : Int) < (l.length : Int) := by omega
                have p5 : 0 ≤ ((i + 1 + 1 : Nat) : Int) := by omega
                have p6 : ((i + 1 + 1 : Nat) : Int) < (l.length : Int) := by omega
                have n1 : i + 1 ≤ 9223372036854775807 := by omega
                have n2 : i + 1 + 1 ≤ 9223372036854775807 := by omega
                have n3 : i + 3 ≤ 9223372036854775807 := by omega
                have e1 : ((i + 1 : Nat) : Int) + 1 = ((i + 1 + 1 : Nat) : Int) := by omega
                have e3 : ((i + 1 : Nat) : Int) + ((130 - 128 : Nat) : Int) = ((i + 3 : Nat) : Int) := by omega
                have p0 : wrap64 (((i + 1 : Nat) : Int) + 0) = ((i + 1 : Nat) : Int) := by rw [Int.add_zero]; exact wrap64_nat n1
                have p4 : wrap64 (((i + 1 : Nat) : Int) + wrap64 (0 + 1)) = ((i + 1 + 1 : Nat) : Int) := by rw [wr1, e1]; exact wrap64_nat n2
                have p3 : wrap64 (((i + 1 : Nat) : Int) + ((130 - 128 : Nat) : Int)) = ((i + 3 : Nat) : Int) := by rw [e3]; exact wrap64_nat n3
                simp only [ber_Get.l0]
                rw [if_pos (show (0 : Int) < ((130 - 128 : Nat) : Int) by decide), p0, if_pos p1, size_sb, if_pos p2, bt_drop hd', or_zero, if_pos (show wrap64 (0 + 1) < ((130 - 128 : Nat) : Int) by rw [wr1]; decide), p4, if_pos p5, if_pos p6, bt_drop hd'', or_two, if_neg (show ¬ wrap64 (wrap64 (0 + 1) + 1) < ((130 - 128 : Nat) : Int) by rw [wr1, wr2]; decide), p3]
                clear p0 p4 p3 e1 e3
                by_cases h6 : b.toNat = 0
                · rw [show 256 * b.toNat + c.toNat = c.toNat by omega]
                  by_cases h7 : c.toNat ≤ 127
                  · rw [ber_Size1 _ h7 _ (by omega), Option.bind_some, if_neg (by simp [wrap64])]
                    simp [h6]
                  · rw [ber_Size2 _ (by omega) (by omega) _ (by omega), Option.bind_some, if_neg (by simp [wrap64])]
                    simp [h6]
                · rw [ber_Size3 _ (by omega) (by omega) _ (by omega), Option.bind_some, if_pos (by simp [wrap64])]
                  simp [h6]
theorem ref09_Get (l : List UInt8) (hl : l.length ≤ 140737488351232) (i : Nat) (hi : i ≤ l.length) (k : Nat) (hk : 9 < k) : groatref09_Get.f k (sb l) (i : Int) = some (berR i (l.drop i)) := by
  obtain ⟨k, rfl⟩ : ∃ m, k = m + 7 := ⟨k - 7, by omega⟩
  have b1 : ¬ (i : Int) < 0 := by omega
  have b2 : ¬ (i : Int) > (l.length : Int) := by omega
  unfold groatref09_Get.f
  rw [if_neg b1, size_sb, decide_eq_false b2]
  simp only [groatref09_Get.j0]
  rw [if_neg (by decide), size_sb]
  cases hd : l.drop i with
  | nil =>
    have h : (i : Int) = (l.length : Int) := by have := congrArg List.length hd; rw [List.length_drop] at this; simp at this; omega
    rw [if_pos h]; rfl
  | cons a m =>
    have hlen := len_drop hd
    have ha := u8_lt a
    have b3 : ¬ (i : Int) = (l.length : Int) := by omega
    have b4 : 0 ≤ (i : Int) := by omega
    have b5 : (i : Int) < (l.length : Int) := by omega
    have g1 : wrap64 ((i : Int) + 1) = ((i + 1 : Nat) : Int) := wrap64_succ (by omega)
    have g0 : wrap64 ((l.length : Int) - (i : Int)) = ((m.length + 1 : Nat) : Int) := by rw [show (l.length : Int) - (i : Int) = ((m.length + 1 : Nat) : Int) by omega]; exact wrap64_nat (by omega)
    have g2 : wrap64 ((i : Int) + 2) = ((i + 2 : Nat) : Int) := by rw [show (i : Int) + 2 = ((i + 2 : Nat) : Int) by omega]; exact wrap64_nat (by omega)
    have g3 : wrap64 ((i : Int) + 3) = ((i + 3 : Nat) : Int) := by rw [show (i : Int) + 3 = ((i + 3 : Nat) : Int) by omega]; exact wrap64_nat (by omega)
    have hdrop : ∀ b m', m = b :: m' → l.drop (i + 1) = b :: m' := by intro b m' e; obtain ⟨-, -, h⟩ := drop_cons hd; rw [h, e]
    rw [if_neg b3, if_pos b4, if_pos b5, bt_drop hd, wrap_byte, g1, berR]
    by_cases h1 : a.toNat ≤ 127
    · have q1 : (a.toNat : Int) < 128 := by omega
      rw [if_pos h1, if_pos q1]
    · have q1 : ¬ (a.toNat : Int) < 128 := by omega
      rw [if_neg h1, if_neg q1]
      by_cases h4 : a.toNat = 129
      · have q2 : (a.toNat : Int) = 129 := by omega
        have h2 : ¬ (a.toNat = 128 ∨ 130 < a.toNat) := by omega
        rw [if_neg h2, if_pos q2, if_pos h4, h4]
        simp only [groatref09_Get.j1]
        rw [if_neg (by decide), size_sb, g0, g1, g2]
        clear g0 g1 g2 g3
        by_cases h3 : m.length < 129 - 128
        · have q4 : ((m.length + 1 : Nat) : Int) < wrap64 (((129 : Nat) : Int) - 127) := by rw [wr129]; omega
          rw [if_pos h3, if_pos q4]
        · have q4 : ¬ ((m.length + 1 : Nat) : Int) < wrap64 (((129 : Nat) : Int) - 127) := by rw [wr129]; omega
          rw [if_neg h3, if_neg q4, if_pos (by decide)]
          cases m with
          | nil => simp at h3
          | cons b m' =>
            have hd' := hdrop b m' rfl
            have hlen' := len_drop hd'
            have p1 : 0 ≤ ((i + 1 : Nat) : Int) := by omega
            have p2 : ((i + 1 : Nat) : Int) < (l.length : Int) := by omega
            rw [if_pos p1, if_pos p2, bt_drop hd', wrap_byte]
            by_cases h5 : b.toNat ≤ 127
            · rw [if_pos (show (b.toNat : Int) < 128 by omega)]; simp [h5]
            · rw [if_neg (show ¬ (b.toNat : Int) < 128 by omega)]; simp [h5]
      · have q2 : ¬ (a.toNat : Int) = 129 := by omega
        rw [if_neg q2]
        by_cases h5 : a.toNat = 130
        · have h2 : ¬ (a.toNat = 128 ∨ 130 < a.toNat) := by omega
          rw [if_neg h2, if_neg h4, h5]
          simp only [groatref09_Get.j1]
          rw [if_neg (by decide), size_sb, g0, g1, g2, g3]
          clear g0 g1 g2 g3
          by_cases h3 : m.length < 130 - 128
          · have q4 : ((m.length + 1 : Nat) : Int) < wrap64 (((130 : Nat) : Int) - 127) := by rw [wr130]; omega
            rw [if_pos h3, if_pos q4]
          · have q4 : ¬ ((m.length + 1 : Nat) : Int) < wrap64 (((130 : Nat) : Int) - 127) := by rw [wr130]; omega
            rw [if_neg h3, if_neg q4, if_neg (by decide)]
            cases m with
            | nil => simp at h3
            | cons b m' =>
              cases m' with
              | nil => simp at h3
              | cons c m'' =>
                have hd' := hdrop b _ rfl
                have hlen' := len_drop hd'
                have hd'' : l.drop (i + 2) = c :: m'' := by obtain ⟨-, -, h⟩ := drop_cons hd'; exact h
                have hlen'' := len_drop hd''
                have p1 : 0 ≤ ((i + 1 : Nat) : Int) := by omega
                have p2 : ((i + 1 : Nat) : Int) < (l.length : Int) := by omega
                have p5 : 0 ≤ ((i + 2 : Nat) : Int) := by omega
                have p6 : ((i + 2 : Nat) : Int) < (l.length : Int) := by omega
                rw [if_pos p1, if_pos p2, if_pos p5, if_pos p6, bt_drop hd', bt_drop hd'', wrap_byte, wrap_byte, wrap_256byte]
                by_cases h6 : b.toNat = 0
                · rw [if_pos (show (b.toNat : Int) = 0 by omega)]; simp [h6]
                · rw [if_neg (show ¬ (b.toNat : Int) = 0 by omega)]; simp [h6]
        · have h2 : a.toNat = 128 ∨ 130 < a.toNat := by omega
          have q3 : ((a.toNat : Int) != 130) = true := by rw [bne_iff_ne]; omega
          rw [if_pos h2, q3]
          simp only [groatref09_Get.j1, if_true]
theorem berR_ok (i : Nat) (m : List UInt8) (hm : m.length ≤ 140737488351232) {t n e : Int} (h : berR i m = (t, n, e)) (he : e = 0) : (0 ≤ t ∧ t ≤ 65535) ∧ ∃ w : Nat, 1 ≤ w ∧ w ≤ m.length ∧ n = ((i + w : Nat) : Int) := by
  subst he
  cases m with
  | nil => simp [berR] at h
  | cons a m =>
    have ha := u8_lt a
    rw [berR] at h
    split at h
    · simp only [Prod.mk.injEq] at h
      obtain ⟨rfl, rfl, -⟩ := h
      exact ⟨⟨by omega, by omega⟩, 1, by omega, by simp, rfl⟩
    · split at h
      · simp at h
      · split at h
        · simp at h
        · split at h
          · split at h
            · simp at h
            · simp only [Prod.mk.injEq] at h
              obtain ⟨rfl, rfl, -⟩ := h
              have := u8_lt (m.getD 0 0)
              exact ⟨⟨by omega, by omega⟩, 2, by omega, by rw [List.length_cons]; omega, rfl⟩
          · split at h
            · simp at h
            · simp only [Prod.mk.injEq] at h
              obtain ⟨rfl, rfl, -⟩ := h
              have := u8_lt (m.getD 0 0)
              have := u8_lt (m.getD 1 0)
              exact ⟨⟨by omega, by omega⟩, 3, by omega, by rw [List.length_cons]; omega, rfl⟩
end Go.Proofs.Ytfaeodcapagjbaa.Sp
