/- What the program's functions on digits answer. -/
import Derived.Test.YtjbhknfdfnilbaaNga
import Derived.Test.YtjbhknfdfnilbaaXgh
import Derived.Laws.RangeString
import Derived.Laws.RangeAny
namespace Go.Proofs.Ytjbhknfdfnilbaa.Xe
open Go Go.RowKit Go.Proofs.Ytjbhknfdfnilbaa.Sp
set_option linter.unusedVariables false
set_option linter.unusedSimpArgs false
set_option maxRecDepth 100000
theorem decode_dig (l : List UInt8) (i : Nat) (a : UInt8) (m : List UInt8) (hd : l.drop i = a :: m) (h : dig a = true) : Utf8.decode (sb l) i = (a.toNat, 1) := by
  obtain ⟨hlt, ha, -⟩ := drop_cons hd
  have hs : i < (sb l).size := by rw [size_sb]; exact hlt
  have e : (sb l)[i]'hs = a := ha
  have := (dig_iff a).1 h
  rw [decode_ascii _ _ hs (by rw [e]; omega), e]
theorem decode_not (l : List UInt8) (i : Nat) (a : UInt8) (m : List UInt8) (hd : l.drop i = a :: m) (h : dig a = false) : (Utf8.decode (sb l) i).1 < 48 ∨ 57 < (Utf8.decode (sb l) i).1 := by
  obtain ⟨hlt, ha, -⟩ := drop_cons hd
  have hs : i < (sb l).size := by rw [size_sb]; exact hlt
  have e : (sb l)[i]'hs = a := ha
  by_cases hc : a.toNat < 128
  · rw [decode_ascii _ _ hs (by rw [e]; exact hc), e]
    exact (dig_not a).1 h
  · have := decode_high (sb l) i hs (by rw [e]; omega)
    omega
/-! ### digits_All -/
@[reducible] def digits_All.sg : List Shp := [.v (.str)]
@[reducible] def digits_All.rs : Rs := .one (.v (.bool))
@[reducible] noncomputable def digits_All.code : Code := Try.f76.body.getD .skip
noncomputable def digits_All.C : Ctx := ⟨tab, [], [], ⟨[(2, [6], 1)], []⟩⟩
noncomputable def digits_All.l0 (n : Nat) (v0 : ByteArray) (v1 : Nat) : Option Bool := run digits_All.C (finOf digits_All.C Try.f76 digits_All.rs) n (todoAt 2 digits_All.code) ⟨[.junk, .junk, .junk, .junk, .junk, .junk, .ptr 0 0, .junk, .junk, .junk, .junk, .junk, .junk, .junk, .junk, .junk], [[.itr v0 v1]], []⟩
-- the loop at region 2
theorem digits_All.l0_eq (n : Nat) (v0 : ByteArray) (v1 : Nat) : digits_All.l0 (n + 1) v0 v1 =
  (if v1 < ByteArray.size v0 then (if (↑(Prod.fst (Utf8.decode v0 v1)) : Int) < 48 then (some false)
   else (if (↑(Prod.fst (Utf8.decode v0 v1)) : Int) > 57 then (some false)
    else (digits_All.l0 n v0 (v1 + Prod.snd (Utf8.decode v0 v1)))))
  else (some true)) := by kernel_rfl
theorem digits_All.eq (n : Nat) (a0 : ByteArray) : call digits_All.C Try.f76 digits_All.code digits_All.sg digits_All.rs n a0 =
  (digits_All.l0 n a0 0) := by kernel_rfl
def digits_All.f (s : ByteArray) : Option Bool := some ((bl s).all dig)
theorem digits_All (l : List UInt8) : digits_All.f (sb l) = some (l.all dig) := rfl
theorem digits_All_l (l : List UInt8) : ∀ (m : List UInt8) (i k : Nat), l.drop i = m → i + m.length = l.length → m.length < k → digits_All.l0 k (sb l) i = some (m.all dig)
  | [], i, k, hd, hl, hk => by
    obtain ⟨k, rfl⟩ : ∃ m, k = m + 1 := ⟨k - 1, by omega⟩
    simp at hl
    rw [digits_All.l0_eq, if_neg (by rw [size_sb]; omega)]; rfl
  | a :: m, i, k, hd, hl, hk => by
    obtain ⟨k, rfl⟩ : ∃ m, k = m + 1 := ⟨k - 1, by omega⟩
    simp only [List.length_cons] at hl hk
    obtain ⟨hlt, -, hd2⟩ := drop_cons hd
    rw [digits_All.l0_eq, if_pos (by rw [size_sb]; omega), List.all_cons]
    cases h : dig a with
    | true =>
      have hh := (dig_iff a).1 h
      rw [decode_dig l i a m hd h]
      dsimp only
      rw [if_neg (by omega), if_neg (by omega), digits_All_l l m (i + 1) k hd2 (by omega) (by omega), Bool.true_and]
    | false =>
      rcases decode_not l i a m hd h with h1 | h1
      · rw [if_pos (by omega)]; rfl
      · rw [if_neg (by omega), if_pos (by omega)]; rfl
noncomputable def digits_All.c : Con := ⟨76, digits_All.sg, digits_All.rs, digits_All.f⟩
theorem digits_All.con : ConOk Try.prog digits_All.c := walked (C := digits_All.C) rfl (by kernel_rfl) (by kernel_rfl) (by kernel_rfl) rfl trivial fun s y h => by
  obtain ⟨l, rfl⟩ := ex_sb s
  exact ⟨l.length + 1, by rw [digits_All.eq]; exact (digits_All_l l l 0 _ rfl (by simp) (by omega)).trans h⟩
end Go.Proofs.Ytjbhknfdfnilbaa.Xe
