import Derived.Test.YtkaihbkfobiejaaGreatDoorNgb
import Derived.Test.YtkaihbkfobiejaaGreatDoorNga
/- What the program's and the reference's functions on specs answer. -/
namespace Go.Proofs.YtkaihbkfobiejaaGreatDoor.Sp
open Go Go.RowKit
set_option linter.unusedVariables false
set_option linter.unusedSimpArgs false
/-- What is wrong with a spec; 0: nothing. -/
def specE (no c fo mi ma : Int) : Int :=
  if no < 2 ∨ 128 < no then 1 else if ¬ (1 ≤ c ∧ c ≤ 6) then 6 else if ¬ (1 ≤ fo ∧ fo ≤ 3) then 3
  else if mi < 1 ∨ ma < mi ∨ (if fo = 2 then 99 else 999) < ma ∨ (fo = 1 ∧ mi ≠ ma) then 5 else if fo = 1 ∧ c = 6 then 13 else 0
theorem specE_zero {no c fo mi ma : Int} (h : specE no c fo mi ma = 0) : (2 ≤ no ∧ no ≤ 128) ∧ (1 ≤ c ∧ c ≤ 6) ∧ (1 ≤ fo ∧ fo ≤ 3) ∧ 1 ≤ mi ∧ mi ≤ ma ∧ ma ≤ 999 ∧ (fo = 2 → ma ≤ 99) ∧ (fo = 1 → mi = ma) ∧ (fo = 1 → c ≠ 6) := by
  unfold specE at h
  by_cases h1 : no < 2 ∨ 128 < no
  · rw [if_pos h1] at h; cases h
  rw [if_neg h1] at h
  by_cases h2 : 1 ≤ c ∧ c ≤ 6
  · rw [if_neg (not_not_intro h2)] at h
    by_cases h3 : 1 ≤ fo ∧ fo ≤ 3
    · rw [if_neg (not_not_intro h3)] at h
      by_cases h4 : mi < 1 ∨ ma < mi ∨ (if fo = 2 then 99 else 999) < ma ∨ (fo = 1 ∧ mi ≠ ma)
      · rw [if_pos h4] at h; cases h
      rw [if_neg h4] at h
      by_cases h5 : fo = 1 ∧ c = 6
      · rw [if_pos h5] at h; cases h
      by_cases h6 : fo = 2
      · rw [if_pos h6] at h4; omega
      · rw [if_neg h6] at h4; omega
    · rw [if_pos h3] at h; cases h
  · rw [if_pos h2] at h; cases h
theorem most_iff (fo ma : Int) (h : 1 ≤ fo ∧ fo ≤ 3) : (999 < ma ∨ (fo ≠ 1 ∧ preMost fo < ma)) ↔ (if fo = 2 then 99 else 999) < ma := by
  unfold preMost
  by_cases h2 : fo = 2
  · subst h2; simp; omega
  · by_cases h3 : fo = 3
    · subst h3; simp
    · have : fo = 1 := by omega
      subst this; simp
end Go.Proofs.YtkaihbkfobiejaaGreatDoor.Sp

/- What the program's and the reference's functions on tags, lengths and lists of them answer. -/
namespace Go.Proofs.YtkaihbkfobiejaaGreatDoor.Sp
open Go Go.RowKit
set_option linter.unusedVariables false
set_option linter.unusedSimpArgs false
/-- Two bytes as a number, by an or. -/
theorem or_join (a b : Nat) (ha : a < 256) (hb : b < 256) : Go.bits .or .i64 ((a * 256 : Nat) : Int) (b : Int) = ((256 * a + b : Nat) : Int) := by
  have h1 : (BitVec.ofInt 64 ((a * 256 : Nat) : Int)).toNat = a * 256 := by
    rw [BitVec.ofInt_natCast, BitVec.toNat_ofNat]; exact Nat.mod_eq_of_lt (by omega)
  have h2 : (BitVec.ofInt 64 (b : Int)).toNat = b := by
    rw [BitVec.ofInt_natCast, BitVec.toNat_ofNat]; exact Nat.mod_eq_of_lt (by omega)
  have h3 : a * 256 ||| b = 256 * a + b := by
    have := Nat.two_pow_add_eq_or_of_lt (i := 8) (b := b) (by omega) a
    rw [show a * 256 = 2 ^ 8 * a by omega, ← this]
  show IntKind.i64.wrap ((BitVec.ofInt 64 ((a * 256 : Nat) : Int) ||| BitVec.ofInt 64 (b : Int)).toNat : Int) = _
  rw [BitVec.toNat_or, h1, h2, h3, wrap_nat (by omega)]
theorem wr0 : wrap64 (0 * 256) = ((0 * 256 : Nat) : Int) := by simp [wrap64]
theorem wr1 : wrap64 (0 + 1) = 1 := by simp [wrap64]
theorem wr2 : wrap64 (1 + 1) = 2 := by simp [wrap64]
theorem wr3 : wrap64 (2 + 1) = 3 := by simp [wrap64]
theorem wr129 : wrap64 (((129 : Nat) : Int) - 127) = 2 := by simp [wrap64]
theorem wr130 : wrap64 (((130 : Nat) : Int) - 127) = 3 := by simp [wrap64]
/-- Does a byte begin a tag, and of how many bytes? -/
def tagKind (a : Nat) : Int := if a = 0 ∨ a / 32 % 2 = 1 then 0 else if a % 32 = 31 then 2 else 1
/-- The tag ahead of some bytes that stand at i. -/
def tagR (i : Nat) : List UInt8 → Int × Int × Int
  | [] => (0, 0, 2)
  | a :: m => if tagKind a.toNat = 0 then (0, 0, 13) else if tagKind a.toNat = 1 then ((a.toNat : Int), ((i + 1 : Nat) : Int), 0) else
    match m with
    | [] => (0, 0, 2)
    | b :: _ => if 1 ≤ b.toNat ∧ b.toNat ≤ 127 then (((256 * a.toNat + b.toNat : Nat) : Int), ((i + 2 : Nat) : Int), 0) else (0, 0, 13)
theorem tagR_cons (i : Nat) (a : UInt8) (m : List UInt8) : tagR i (a :: m) = (if tagKind a.toNat = 0 then (0, 0, 13) else if tagKind a.toNat = 1 then ((a.toNat : Int), ((i + 1 : Nat) : Int), 0) else
    match m with
    | [] => (0, 0, 2)
    | b :: _ => if 1 ≤ b.toNat ∧ b.toNat ≤ 127 then (((256 * a.toNat + b.toNat : Nat) : Int), ((i + 2 : Nat) : Int), 0) else (0, 0, 13) : Int × Int × Int) := by cases m <;> rfl
theorem tagKind_cases (a : Nat) : tagKind a = 0 ∨ tagKind a = 1 ∨ tagKind a = 2 := by unfold tagKind; repeat' split
                                                                                      all_goals simp
theorem wrap_byte (a : UInt8) : wrap64 (a.toNat : Int) = (a.toNat : Int) := wrap64_nat (by have := u8_lt a; omega)
theorem wrap_byte256 (a : UInt8) : wrap64 ((a.toNat : Int) * 256) = ((a.toNat * 256 : Nat) : Int) := by
  have := u8_lt a
  have e : ((a.toNat : Int) * 256) = ((a.toNat * 256 : Nat) : Int) := by omega
  rw [e, wrap64_nat (by omega)]
theorem wrap_256byte (a b : UInt8) : wrap64 (wrap64 (256 * (a.toNat : Int)) + (b.toNat : Int)) = ((256 * a.toNat + b.toNat : Nat) : Int) := by
  have := u8_lt a
  have := u8_lt b
  have e : (256 * (a.toNat : Int)) = ((256 * a.toNat : Nat) : Int) := by omega
  have e2 : (((256 * a.toNat : Nat) : Int) + (b.toNat : Int)) = ((256 * a.toNat + b.toNat : Nat) : Int) := by omega
  rw [e, wrap64_nat (by omega), e2, wrap64_nat (by omega)]
theorem or_bytes (a b : UInt8) : Go.bits .or .i64 (wrap64 ((wrap64 (a.toNat : Int)) * 256)) (wrap64 (b.toNat : Int)) = ((256 * a.toNat + b.toNat : Nat) : Int) := by
  rw [wrap_byte, wrap_byte, wrap_byte256, or_join _ _ (u8_lt a) (u8_lt b)]
theorem tagR_ok (i : Nat) (m : List UInt8) (hm : m.length ≤ 140737488351232) {t n e : Int} (h : tagR i m = (t, n, e)) (he : e = 0) : (0 ≤ t ∧ t ≤ 65535) ∧ ∃ w : Nat, 1 ≤ w ∧ w ≤ m.length ∧ n = ((i + w : Nat) : Int) := by
  subst he
  cases m with
  | nil => simp [tagR] at h
  | cons a m =>
    have ha := u8_lt a
    rw [tagR_cons] at h
    split at h
    · simp at h
    · split at h
      · simp only [Prod.mk.injEq] at h
        obtain ⟨rfl, rfl, -⟩ := h
        exact ⟨⟨by omega, by omega⟩, 1, by omega, by simp, rfl⟩
      · cases m with
        | nil => simp at h
        | cons b m =>
          have hb := u8_lt b
          dsimp only at h
          split at h
          · simp only [Prod.mk.injEq] at h
            obtain ⟨rfl, rfl, -⟩ := h
            exact ⟨⟨by omega, by omega⟩, 2, by omega, by simp, rfl⟩
          · simp at h
/-- The length ahead of some bytes that stand at i. -/
def berR (i : Nat) : List UInt8 → Int × Int × Int
  | [] => (0, 0, 2)
  | a :: m => if a.toNat ≤ 127 then ((a.toNat : Int), ((i + 1 : Nat) : Int), 0) else if a.toNat = 128 ∨ 130 < a.toNat then (0, 0, 14) else if m.length < a.toNat - 128 then (0, 0, 2) else if a.toNat = 129 then (if (m.getD 0 0).toNat ≤ 127 then (0, 0, 14) else (((m.getD 0 0).toNat : Int), ((i + 2 : Nat) : Int), 0)) else (if (m.getD 0 0).toNat = 0 then (0, 0, 14) else (((256 * (m.getD 0 0).toNat + (m.getD 1 0).toNat : Nat) : Int), ((i + 3 : Nat) : Int), 0))
theorem or_zero (b : UInt8) : Go.bits .or .i64 (wrap64 (0 * 256)) (wrap64 (b.toNat : Int)) = (b.toNat : Int) := by
  have h := or_join 0 b.toNat (by decide) (u8_lt b)
  rw [wrap_byte, wr0, h, Nat.mul_zero, Nat.zero_add]
theorem or_two (a b : UInt8) : Go.bits .or .i64 (wrap64 ((a.toNat : Int) * 256)) (wrap64 (b.toNat : Int)) = ((256 * a.toNat + b.toNat : Nat) : Int) := by
  rw [wrap_byte, wrap_byte256, or_join _ _ (u8_lt a) (u8_lt b)]
theorem berR_ok (i : Nat) (m : List UInt8) (hm : m.length ≤ 140737488351232) {t n e : Int} (h : berR i m = (t, n, e)) (he : e = 0) : (0 ≤ t ∧ t ≤ 65535) ∧ ∃ w : Nat, 1 ≤ w ∧ w ≤ m.length ∧ n = ((i + w : Nat) : Int) := by
  subst he
  cases m with
  | nil => simp [berR] at h
  | cons a m =>
    have ha := u8_lt a
    rw [berR] at h
    split at h
    · simp only [Prod.mk.injEq] at h
      obtain ⟨rfl, rfl, -⟩ := h
      exact ⟨⟨by omega, by omega⟩, 1, by omega, by simp, rfl⟩
    · split at h
      · simp at h
      · split at h
        · simp at h
        · split at h
          · split at h
            · simp at h
            · simp only [Prod.mk.injEq] at h
              obtain ⟨rfl, rfl, -⟩ := h
              have := u8_lt (m.getD 0 0)
              exact ⟨⟨by omega, by omega⟩, 2, by omega, by rw [List.length_cons]; omega, rfl⟩
          · split at h
            · simp at h
            · simp only [Prod.mk.injEq] at h
              obtain ⟨rfl, rfl, -⟩ := h
              have := u8_lt (m.getD 0 0)
              have := u8_lt (m.getD 1 0)
              exact ⟨⟨by omega, by omega⟩, 3, by omega, by rw [List.length_cons]; omega, rfl⟩
end Go.Proofs.YtkaihbkfobiejaaGreatDoor.Sp

/- The list of tags and values in some bytes, in plain words. -/
namespace Go.Proofs.YtkaihbkfobiejaaGreatDoor.Sp
open Go Go.RowKit
set_option linter.unusedVariables false
set_option linter.unusedSimpArgs false
def tlvG : Nat → List UInt8 → Nat → List (Int × ByteArray) → List (Int × ByteArray) × Int × Int
  | 0, _, _, o => (o, 0, 0)
  | k + 1, l, i, o =>
    if i < l.length then
      if (tagR i (l.drop i)).2.2 ≠ 0 then ([], (tagR i (l.drop i)).2.2, (i : Int))
      else if (berR (tagR i (l.drop i)).2.1.toNat (l.drop (tagR i (l.drop i)).2.1.toNat)).2.2 ≠ 0 then ([], (berR (tagR i (l.drop i)).2.1.toNat (l.drop (tagR i (l.drop i)).2.1.toNat)).2.2, (tagR i (l.drop i)).2.1)
      else if (l.length : Int) < (berR (tagR i (l.drop i)).2.1.toNat (l.drop (tagR i (l.drop i)).2.1.toNat)).2.1 + (berR (tagR i (l.drop i)).2.1.toNat (l.drop (tagR i (l.drop i)).2.1.toNat)).1 then ([], 2, (l.length : Int))
      else if (tagR i (l.drop i)).1 ∈ o.map Prod.fst then ([], 10, (i : Int))
      else tlvG k l ((berR (tagR i (l.drop i)).2.1.toNat (l.drop (tagR i (l.drop i)).2.1.toNat)).2.1 + (berR (tagR i (l.drop i)).2.1.toNat (l.drop (tagR i (l.drop i)).2.1.toNat)).1).toNat
        (o ++ [((tagR i (l.drop i)).1, sb ((l.take ((berR (tagR i (l.drop i)).2.1.toNat (l.drop (tagR i (l.drop i)).2.1.toNat)).2.1 + (berR (tagR i (l.drop i)).2.1.toNat (l.drop (tagR i (l.drop i)).2.1.toNat)).1).toNat).drop (berR (tagR i (l.drop i)).2.1.toNat (l.drop (tagR i (l.drop i)).2.1.toNat)).2.1.toNat))])
    else (o, 0, 0)
/-- One step: what the readers of a tag and of a length answer, and where the next place lies. -/
theorem tlvG_step {k : Nat} {l : List UInt8} (hl : l.length ≤ 1000000000000) {i : Nat} {o : List (Int × ByteArray)} (hi : i < l.length) :
    (∃ e : Int, ¬ e = 0 ∧ (tagR i (l.drop i)).2.2 = e ∧ tlvG (k + 1) l i o = ([], e, (i : Int))) ∨
    (∃ (t : Int) (n : Nat) (e : Int), tagR i (l.drop i) = (t, ((n : Nat) : Int), 0) ∧ n ≤ l.length ∧ ¬ e = 0 ∧ (berR n (l.drop n)).2.2 = e ∧ tlvG (k + 1) l i o = ([], e, (n : Int))) ∨
    (∃ (t : Int) (n z m : Nat), (0 ≤ t ∧ t ≤ 65535) ∧ tagR i (l.drop i) = (t, ((n : Nat) : Int), 0) ∧ n ≤ l.length ∧ i < n ∧ berR n (l.drop n) = ((z : Int), (m : Int), 0) ∧ n < m ∧ m ≤ l.length ∧ z ≤ 65535 ∧
      tlvG (k + 1) l i o = if l.length < m + z then ([], 2, (l.length : Int)) else if t ∈ o.map Prod.fst then ([], 10, (i : Int)) else tlvG k l (m + z) (o ++ [(t, sb ((l.take (m + z)).drop m))])) := by
  rw [tlvG, if_pos hi]
  obtain ⟨t, n', e1, h1⟩ : ∃ a b c, tagR i (l.drop i) = (a, b, c) := ⟨_, _, _, rfl⟩
  rw [h1]
  dsimp only
  by_cases c1 : e1 = 0
  · obtain ⟨ht, w, hw1, hw2, rfl⟩ := tagR_ok i _ (by rw [List.length_drop]; omega) h1 c1
    rw [List.length_drop] at hw2
    subst c1
    rw [if_neg (by simp), Int.toNat_natCast]
    obtain ⟨z, m', e2, h2⟩ : ∃ a b c, berR (i + w) (l.drop (i + w)) = (a, b, c) := ⟨_, _, _, rfl⟩
    rw [h2]
    dsimp only
    by_cases c2 : e2 = 0
    · obtain ⟨hz, v, hv1, hv2, rfl⟩ := berR_ok (i + w) _ (by rw [List.length_drop]; omega) h2 c2
      rw [List.length_drop] at hv2
      subst c2
      rw [if_neg (by simp)]
      obtain ⟨z, rfl⟩ := Int.eq_ofNat_of_zero_le hz.1
      refine .inr (.inr ⟨t, i + w, z, i + w + v, ht, rfl, by omega, by omega, h2, by omega, by omega, by omega, ?_⟩)
      rw [show ((i + w + v : Nat) : Int) + (z : Int) = ((i + w + v + z : Nat) : Int) by omega, Int.toNat_natCast, Int.toNat_natCast]
      by_cases c3 : l.length < i + w + v + z
      · rw [if_pos c3, if_pos (by omega)]
      · rw [if_neg c3, if_neg (by omega)]
    · rw [if_pos c2]
      exact .inr (.inl ⟨t, i + w, e2, rfl, by omega, c2, by rw [h2], rfl⟩)
  · rw [if_pos c1]
    exact .inl ⟨e1, c1, rfl, rfl⟩
def tlvErr (l : List UInt8) : Int := (tlvG (l.length + 1) l 0 []).2.1
end Go.Proofs.YtkaihbkfobiejaaGreatDoor.Sp

/- What the program's and the reference's functions on specs answer. -/
namespace Go.Proofs.YtkaihbkfobiejaaGreatDoor.Sp
open Go Go.RowKit
set_option linter.unusedVariables false
set_option linter.unusedSimpArgs false
/-- What is wrong with a text as a spec's value; 0: nothing. -/
def specV (no c fo mi ma : Int) (l : List UInt8) : Int :=
  if specE no c fo mi ma ≠ 0 then 1 else if (l.length : Int) < mi ∨ ma < (l.length : Int) then 5 else if l.all (inC c) = false then 6 else if c = 6 ∧ tlvErr l ≠ 0 then 13 else 0
end Go.Proofs.YtkaihbkfobiejaaGreatDoor.Sp

/- What the program's cell.Put and cell.Get answer. -/
namespace Go.Proofs.YtkaihbkfobiejaaGreatDoor.Sp
open Go Go.RowKit
set_option linter.unusedVariables false
set_option linter.unusedSimpArgs false
def cellHow (st c : Int) : Int := if st = 2 ∧ c = 1 then 1 else if st = 1 ∧ (c = 5 ∨ c = 6) then 2 else 0
def cellBody (h : Int) (l : List UInt8) : List UInt8 := if h = 1 then (bcdPut l).1 else if h = 2 then hexPut l else l
def cellHead (st fo : Int) (n : Nat) : List UInt8 := if fo = 1 then [] else (prePut st fo (n : Int)).1
noncomputable def cellPut (st no c fo mi ma : Int) (l : List UInt8) : List UInt8 × Int :=
  if ¬ (st = 1 ∨ st = 2) then ([], 1) else if specV no c fo mi ma l ≠ 0 then ([], specV no c fo mi ma l) else (cellHead st fo l.length ++ cellBody (cellHow st c) l, 0)
def cellSize (h : Int) (n : Nat) : Nat := if h = 1 then (n + 1) / 2 else if h = 2 then 2 * n else n
def cellText (h : Int) (raw : List UInt8) (n : Int) : List UInt8 × Int := if h = 1 then ((bcdGet raw n).1, (bcdGet raw n).2.1) else if h = 2 then ((hexGet raw).1, if (hexGet raw).2.2 = true then 0 else 3) else (raw, 0)
noncomputable def cellTake (st no c fo mi ma : Int) (b : List UInt8) (a n : Nat) : List UInt8 × Int × Int :=
  if (b.length : Int) - (a : Int) < (cellSize (cellHow st c) n : Int) then ([], 0, 2)
  else if (cellText (cellHow st c) ((b.drop a).take (cellSize (cellHow st c) n)) (n : Int)).2 ≠ 0 then ([], 0, (cellText (cellHow st c) ((b.drop a).take (cellSize (cellHow st c) n)) (n : Int)).2)
  else if specV no c fo mi ma (cellText (cellHow st c) ((b.drop a).take (cellSize (cellHow st c) n)) (n : Int)).1 ≠ 0 then ([], 0, specV no c fo mi ma (cellText (cellHow st c) ((b.drop a).take (cellSize (cellHow st c) n)) (n : Int)).1)
  else ((cellText (cellHow st c) ((b.drop a).take (cellSize (cellHow st c) n)) (n : Int)).1, ((a + cellSize (cellHow st c) n : Nat) : Int), 0)
noncomputable def cellGet (st no c fo mi ma : Int) (b : List UInt8) (at_ : Int) : List UInt8 × Int × Int :=
  if ¬ ((st = 1 ∨ st = 2) ∧ specE no c fo mi ma = 0 ∧ 0 ≤ at_ ∧ at_ ≤ (b.length : Int)) then ([], 0, 1)
  else if fo = 1 then cellTake st no c fo mi ma b at_.toNat mi.toNat
  else if (preGet st fo b at_).2.2 ≠ 0 then ([], 0, (preGet st fo b at_).2.2)
  else if (preGet st fo b at_).1 < mi ∨ ma < (preGet st fo b at_).1 then ([], 0, 5)
  else cellTake st no c fo mi ma b (preGet st fo b at_).2.1.toNat (preGet st fo b at_).1.toNat
theorem how_cases (st c : Int) : cellHow st c = 1 ∨ cellHow st c = 2 ∨ cellHow st c = 0 := by unfold cellHow; repeat' split
                                                                                              all_goals simp
theorem specV_zero {no c fo mi ma : Int} {l : List UInt8} (h : specV no c fo mi ma l = 0) : specE no c fo mi ma = 0 ∧ mi ≤ (l.length : Int) ∧ (l.length : Int) ≤ ma ∧ l.all (inC c) = true := by
  unfold specV at h
  by_cases h1 : specE no c fo mi ma = 0
  · rw [if_neg (not_not_intro h1)] at h
    by_cases h2 : (l.length : Int) < mi ∨ ma < (l.length : Int)
    · rw [if_pos h2] at h; cases h
    · rw [if_neg h2] at h
      cases h3 : l.all (inC c) with
      | false => rw [if_pos h3] at h; cases h
      | true => exact ⟨h1, by omega, by omega, rfl⟩
  · rw [if_pos h1] at h; cases h
theorem specV_len {no c fo mi ma : Int} {l : List UInt8} (h : specV no c fo mi ma l = 0) : l.length ≤ 999 := by
  have h1 := specV_zero h
  have h2 := specE_zero h1.1
  omega
theorem body_length (st c : Int) (l : List UInt8) (hl : l.length ≤ 999) : (cellBody (cellHow st c) l).length ≤ 2000 := by
  unfold cellBody
  split
  · unfold bcdPut
    split
    · simp
    · rw [pack_len]; omega
  · split
    · rw [hexPut_length]; omega
    · omega
theorem head_length (st fo : Int) (n : Nat) (hf : 1 ≤ fo ∧ fo ≤ 3) : (cellHead st fo n).length ≤ 1000 := by
  unfold cellHead prePut
  split
  · simp
  · split
    · split
      · rename_i h
        obtain ⟨h1, h2, h3, h4, h5⟩ := putNum_ok (n := (n : Int)) (w := fo.toNat) (by rw [show ((fo.toNat : Nat) : Int) = fo by omega]; exact h)
        rw [show ((fo.toNat : Nat) : Int) = fo by omega] at h5
        rw [h5]
        dsimp only
        split
        · unfold bcdPut
          split
          · simp
          · rw [pack_len, bl_sb, digs_length]; omega
        · rw [bl_sb, digs_length]; omega
      · simp
    · simp
end Go.Proofs.YtkaihbkfobiejaaGreatDoor.Sp

/- What is put is got, and what is got is put. -/
namespace Go.Proofs.YtkaihbkfobiejaaGreatDoor.Sp
open Go Go.RowKit
set_option linter.unusedVariables false
set_option linter.unusedSimpArgs false
theorem inC1 (x : UInt8) : inC 1 x = dig x := by
  unfold inC inN dig
  rw [if_pos rfl, Bool.eq_iff_iff]
  simp
  omega
theorem body_size (st no c fo mi ma : Int) (l : List UInt8) (h : specV no c fo mi ma l = 0) : (cellBody (cellHow st c) l).length = cellSize (cellHow st c) l.length := by
  have hl := specV_len h
  obtain ⟨h0, h1, h2, h3⟩ := specV_zero h
  unfold cellBody cellSize
  by_cases c1 : cellHow st c = 1
  · rw [if_pos c1, if_pos c1]
    have hc : c = 1 := by
      unfold cellHow at c1
      by_cases g : st = 2 ∧ c = 1
      · exact g.2
      · rw [if_neg g] at c1; split at c1 <;> cases c1
    subst hc
    have hd : l.all dig = true := by rw [← h3]; congr 1; funext x; exact (inC1 x).symm
    unfold bcdPut
    rw [if_neg (by intro h; rcases h with h | h; omega; rw [hd] at h; cases h), pack_len]
  · rw [if_neg c1, if_neg c1]
    split
    · rw [hexPut_length]
    · rfl
theorem text_body (st no c fo mi ma : Int) (l : List UInt8) (h : specV no c fo mi ma l = 0) : cellText (cellHow st c) (cellBody (cellHow st c) l) (l.length : Int) = (l, 0) := by
  have hl := specV_len h
  obtain ⟨h0, h1, h2, h3⟩ := specV_zero h
  unfold cellText cellBody
  by_cases c1 : cellHow st c = 1
  · simp only [c1, if_true]
    have hc : c = 1 := by
      unfold cellHow at c1
      by_cases g : st = 2 ∧ c = 1
      · exact g.2
      · rw [if_neg g] at c1; split at c1 <;> cases c1
    subst hc
    have hd : l.all dig = true := by rw [← h3]; congr 1; funext x; exact (inC1 x).symm
    have hg := bcdGet_put l [] (by omega) hd
    rw [List.append_nil] at hg
    unfold bcdPut
    rw [if_neg (by intro h; rcases h with h | h; omega; rw [hd] at h; cases h), hg]
  · simp only [c1, if_false]
    by_cases c2 : cellHow st c = 2
    · simp only [c2, if_true]
      rw [hexGet_put]; rfl
    · simp only [c2, if_false]
/-- A value that is put is got as it was, with anything ahead of it and behind it. -/
theorem take_put (st no c fo mi ma : Int) (l a r : List UInt8) (h : specV no c fo mi ma l = 0) : cellTake st no c fo mi ma (a ++ (cellBody (cellHow st c) l ++ r)) a.length l.length = (l, ((a.length + (cellBody (cellHow st c) l).length : Nat) : Int), 0) := by
  have hs := body_size st no c fo mi ma l h
  unfold cellTake
  have e : ((a ++ (cellBody (cellHow st c) l ++ r)).drop a.length).take (cellSize (cellHow st c) l.length) = cellBody (cellHow st c) l := by
    rw [List.drop_left, ← hs, List.take_left]
  rw [e, text_body st no c fo mi ma l h]
  dsimp only
  rw [if_neg (by rw [List.length_append, List.length_append, hs]; omega), if_neg (show ¬ ((0 : Int) ≠ 0) by decide), if_neg (not_not_intro h), hs]
theorem get_put (st no c fo mi ma : Int) (l a r : List UInt8) (hs : st = 1 ∨ st = 2) (h : specV no c fo mi ma l = 0) : cellGet st no c fo mi ma (a ++ ((cellPut st no c fo mi ma l).1 ++ r)) (a.length : Int) = (l, ((a.length + (cellPut st no c fo mi ma l).1.length : Nat) : Int), 0) := by
  have hl := specV_len h
  obtain ⟨h0, h1, h2, h3⟩ := specV_zero h
  have hz := specE_zero h0
  unfold cellPut cellGet
  rw [if_neg (not_not_intro hs), if_neg (not_not_intro h)]
  dsimp only
  unfold cellHead
  by_cases c1 : fo = 1
  · rw [if_pos c1]
    have hm : mi.toNat = l.length := by have := hz.2.2.2.2.2.2.2.1 c1; omega
    rw [if_neg (not_not_intro ⟨hs, h0, by omega, by rw [List.length_append]; omega⟩), if_pos c1, List.nil_append, Int.toNat_natCast, hm, take_put st no c fo mi ma l a r h]
  · rw [if_neg c1]
    have hok : (prePut st fo (l.length : Int)).2 = 0 := by
      have hk : preOk st fo = true := decide_eq_true ⟨hs, by omega⟩
      have hp : putNum (l.length : Int) fo = (sb (digs fo.toNat l.length), true) := by
        have := putNum_pos (n := l.length) (w := fo.toNat) (by omega) (by omega) (by
          rcases (show fo = 2 ∨ fo = 3 by omega) with h' | h'
          · subst h'; have := hz.2.2.2.2.2.2.1 rfl; show l.length < 10 ^ 2; omega
          · subst h'; show l.length < 10 ^ 3; omega)
        rw [show ((fo.toNat : Nat) : Int) = fo by omega] at this
        exact this
      unfold prePut
      rw [if_pos hk, hp]; rfl
    have hg := preGet_put a (cellBody (cellHow st c) l ++ r) hok
    have e : a ++ ((prePut st fo (l.length : Int)).1 ++ cellBody (cellHow st c) l ++ r) = a ++ (prePut st fo (l.length : Int)).1 ++ (cellBody (cellHow st c) l ++ r) := by simp only [List.append_assoc]
    rw [if_neg (not_not_intro ⟨hs, h0, by omega, by rw [List.length_append]; omega⟩), if_neg c1, e, hg]
    dsimp only
    rw [if_neg (by decide), if_neg (by omega), Int.toNat_natCast]
    have e2 : ((a.length : Int) + ((prePut st fo (l.length : Int)).1.length : Int)).toNat = (a ++ (prePut st fo (l.length : Int)).1).length := by rw [List.length_append]; omega
    rw [e2, take_put st no c fo mi ma l _ r h, List.length_append, List.length_append, Nat.add_assoc]
theorem how_one {st c : Int} (h : cellHow st c = 1) : c = 1 := by
  unfold cellHow at h
  by_cases g : st = 2 ∧ c = 1
  · exact g.2
  · rw [if_neg g] at h; split at h <;> cases h
/-- What is taken is what is put. -/
theorem body_text {h n : Int} {raw t : List UInt8} (hn : 0 ≤ n) (hr : raw.length = cellSize h n.toNat) (ht : cellText h raw n = (t, 0)) : cellBody h t = raw ∧ t.length = n.toNat := by
  unfold cellText at ht
  unfold cellBody
  unfold cellSize at hr
  by_cases h1 : h = 1
  · simp only [h1, if_true] at ht hr ⊢
    simp only [Prod.mk.injEq] at ht
    obtain ⟨p, hp⟩ : ∃ p, bcdGet raw n = (t, 0, p) := ⟨(bcdGet raw n).2.2, by rw [← ht.1, ← ht.2]⟩
    obtain ⟨-, g1, g2, g3, g4, g5, g6⟩ := bcdGet_ok hp
    unfold bcdPut
    rw [if_neg (by intro h; rcases h with h | h; omega; rw [g5] at h; cases h), g6, ← hr, List.take_length]
    exact ⟨rfl, g4⟩
  · simp only [h1, if_false] at ht hr ⊢
    by_cases h2 : h = 2
    · simp only [h2, if_true] at ht hr ⊢
      simp only [Prod.mk.injEq] at ht
      obtain ⟨e1, e2⟩ := ht
      by_cases g : (hexGet raw).2.2 = true
      · obtain ⟨g1, g2⟩ := hexGet_ok (l := raw) (r := t) (n := (hexGet raw).2.1) (by rw [← e1, ← g])
        refine ⟨g2, ?_⟩
        have := hexPut_length t
        rw [g2] at this; omega
      · rw [if_neg g] at e2; cases e2
    · simp only [h2, if_false] at ht hr ⊢
      simp only [Prod.mk.injEq] at ht
      rw [← ht.1]; exact ⟨rfl, hr⟩
theorem take_ok {st no c fo mi ma : Int} {b : List UInt8} {a n : Nat} {t : List UInt8} {nx : Int} (ha : a ≤ b.length) (h : cellTake st no c fo mi ma b a n = (t, nx, 0)) : cellBody (cellHow st c) t = (b.drop a).take (cellSize (cellHow st c) n) ∧ t.length = n ∧ nx = ((a + cellSize (cellHow st c) n : Nat) : Int) ∧ a + cellSize (cellHow st c) n ≤ b.length ∧ specV no c fo mi ma t = 0 := by
  unfold cellTake at h
  by_cases h0 : (b.length : Int) - (a : Int) < (cellSize (cellHow st c) n : Int)
  · rw [if_pos h0] at h; simp at h
  · rw [if_neg h0] at h
    obtain ⟨⟨x, e⟩, hx⟩ : ∃ r, cellText (cellHow st c) ((b.drop a).take (cellSize (cellHow st c) n)) (n : Int) = r := ⟨_, rfl⟩
    rw [hx] at h
    dsimp only at h
    by_cases h1 : e = 0
    · subst h1
      rw [if_neg (by decide)] at h
      by_cases h2 : specV no c fo mi ma x = 0
      · rw [if_neg (not_not_intro h2)] at h
        simp only [Prod.mk.injEq] at h
        obtain ⟨rfl, rfl, -⟩ := h
        have hr : ((b.drop a).take (cellSize (cellHow st c) n)).length = cellSize (cellHow st c) (n : Int).toNat := by rw [Int.toNat_natCast, List.length_take, List.length_drop]; omega
        obtain ⟨g1, g2⟩ := body_text (by omega) hr hx
        exact ⟨g1, by rw [g2, Int.toNat_natCast], rfl, by omega, h2⟩
      · rw [if_pos h2] at h
        simp only [Prod.mk.injEq] at h
        exact absurd h.2.2 h2
    · rw [if_pos h1] at h
      simp only [Prod.mk.injEq] at h
      exact absurd h.2.2 h1
theorem take_no {st no c fo mi ma : Int} {b : List UInt8} {a n : Nat} (h : (cellTake st no c fo mi ma b a n).2.2 ≠ 0) : (cellTake st no c fo mi ma b a n).1 = [] ∧ (cellTake st no c fo mi ma b a n).2.1 = 0 := by
  unfold cellTake at h ⊢
  by_cases h0 : (b.length : Int) - (a : Int) < (cellSize (cellHow st c) n : Int)
  · rw [if_pos h0]; exact ⟨rfl, rfl⟩
  · rw [if_neg h0] at h ⊢
    by_cases h1 : (cellText (cellHow st c) ((b.drop a).take (cellSize (cellHow st c) n)) (n : Int)).2 ≠ 0
    · rw [if_pos h1]; exact ⟨rfl, rfl⟩
    · rw [if_neg h1] at h ⊢
      by_cases h2 : specV no c fo mi ma (cellText (cellHow st c) ((b.drop a).take (cellSize (cellHow st c) n)) (n : Int)).1 ≠ 0
      · rw [if_pos h2]; exact ⟨rfl, rfl⟩
      · rw [if_neg h2] at h; exact absurd rfl h
theorem get_no {st no c fo mi ma : Int} {b : List UInt8} {at_ : Int} (h : (cellGet st no c fo mi ma b at_).2.2 ≠ 0) : (cellGet st no c fo mi ma b at_).1 = [] ∧ (cellGet st no c fo mi ma b at_).2.1 = 0 := by
  unfold cellGet at h ⊢
  by_cases h0 : ¬ ((st = 1 ∨ st = 2) ∧ specE no c fo mi ma = 0 ∧ 0 ≤ at_ ∧ at_ ≤ (b.length : Int))
  · rw [if_pos h0]; exact ⟨rfl, rfl⟩
  · rw [if_neg h0] at h ⊢
    by_cases h1 : fo = 1
    · rw [if_pos h1] at h ⊢; exact take_no h
    · rw [if_neg h1] at h ⊢
      by_cases h2 : (preGet st fo b at_).2.2 ≠ 0
      · rw [if_pos h2]; exact ⟨rfl, rfl⟩
      · rw [if_neg h2] at h ⊢
        by_cases h3 : (preGet st fo b at_).1 < mi ∨ ma < (preGet st fo b at_).1
        · rw [if_pos h3]; exact ⟨rfl, rfl⟩
        · rw [if_neg h3] at h ⊢; exact take_no h
/-- Bytes that are got are put as they were. -/
theorem put_get {st no c fo mi ma : Int} {b t : List UInt8} {a : Nat} {nx : Int} (h : cellGet st no c fo mi ma b (a : Int) = (t, nx, 0)) : (st = 1 ∨ st = 2) ∧ specV no c fo mi ma t = 0 ∧ a ≤ b.length ∧ ∃ e : Nat, nx = (e : Int) ∧ a ≤ e ∧ e ≤ b.length ∧ cellPut st no c fo mi ma t = ((b.drop a).take (e - a), 0) := by
  unfold cellGet at h
  by_cases h0 : ¬ ((st = 1 ∨ st = 2) ∧ specE no c fo mi ma = 0 ∧ 0 ≤ (a : Int) ∧ (a : Int) ≤ (b.length : Int))
  · rw [if_pos h0] at h; simp at h
  · rw [if_neg h0] at h
    obtain ⟨hs, he, -, ha⟩ := Classical.not_not.1 h0
    have ha' : a ≤ b.length := by omega
    have hz := specE_zero he
    by_cases h1 : fo = 1
    · rw [if_pos h1, Int.toNat_natCast] at h
      obtain ⟨g1, g2, g3, g4, g5⟩ := take_ok ha' h
      refine ⟨hs, g5, ha', _, g3, by omega, g4, ?_⟩
      unfold cellPut cellHead
      rw [if_neg (not_not_intro hs), if_neg (not_not_intro g5), if_pos h1, g1, List.nil_append, Nat.add_sub_cancel_left]
    · rw [if_neg h1] at h
      obtain ⟨⟨n, x, e⟩, hp⟩ : ∃ r, preGet st fo b (a : Int) = r := ⟨_, rfl⟩
      rw [hp] at h
      dsimp only at h
      by_cases h2 : e = 0
      · subst h2
        rw [if_neg (by decide)] at h
        obtain ⟨p0, p1, p2, p3, p4, p5, p6⟩ := prePut_get hp
        by_cases h3 : n < mi ∨ ma < n
        · rw [if_pos h3] at h; simp at h
        · rw [if_neg h3] at h
          obtain ⟨n', rfl⟩ : ∃ m : Nat, n = (m : Int) := ⟨n.toNat, by omega⟩
          rw [Int.toNat_natCast] at h p0
          have hx : x.toNat = a + preSize st fo := by omega
          rw [hx] at h
          obtain ⟨g1, g2, g3, g4, g5⟩ := take_ok (by omega) h
          refine ⟨hs, g5, ha', _, g3, by omega, g4, ?_⟩
          unfold cellPut cellHead
          rw [if_neg (not_not_intro hs), if_neg (not_not_intro g5), if_neg h1, g1, g2, p0]
          dsimp only
          rw [show a + preSize st fo + cellSize (cellHow st c) n' - a = preSize st fo + cellSize (cellHow st c) n' by omega, List.take_add, List.drop_drop]
      · rw [if_pos h2] at h
        simp only [Prod.mk.injEq] at h
        exact absurd h.2.2 h2
end Go.Proofs.YtkaihbkfobiejaaGreatDoor.Sp
