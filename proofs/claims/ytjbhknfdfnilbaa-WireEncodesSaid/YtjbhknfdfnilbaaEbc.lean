/- What the program's functions on packed digits answer. -/
import Derived.Test.YtjbhknfdfnilbaaEdg
import Derived.Test.YtjbhknfdfnilbaaNgb
namespace Go.Proofs.Ytjbhknfdfnilbaa.Xe
open Go Go.RowKit Go.Proofs.Ytjbhknfdfnilbaa.Sp
set_option linter.unusedVariables false
set_option linter.unusedSimpArgs false
set_option maxRecDepth 100000
theorem pk100 : ∀ a b : Fin 10, bits BinOp.or IntKind.u8 (IntKind.wrap IntKind.u8 (IntKind.wrap IntKind.u8 (((48 + a.val : Nat) : Int) - 48) * 2 ^ 4)) (IntKind.wrap IntKind.u8 (((48 + b.val : Nat) : Int) - 48)) = ((16 * a.val + b.val : Nat) : Int) := by decide +kernel
theorem pk_dig {a b : UInt8} (ha : dig a = true) (hb : dig b = true) : bits BinOp.or IntKind.u8 (IntKind.wrap IntKind.u8 (IntKind.wrap IntKind.u8 ((a.toNat : Int) - 48) * 2 ^ 4)) (IntKind.wrap IntKind.u8 ((b.toNat : Int) - 48)) = ((16 * (a.toNat - 48) + (b.toNat - 48) : Nat) : Int) := by
  have h1 := (dig_iff a).1 ha
  have h2 := (dig_iff b).1 hb
  have := pk100 ⟨a.toNat - 48, by omega⟩ ⟨b.toNat - 48, by omega⟩
  simp only [show 48 + (a.toNat - 48) = a.toNat by omega, show 48 + (b.toNat - 48) = b.toNat by omega] at this
  exact this
/-! ### bcd_Put -/
@[reducible] def bcd_Put.sg : List Shp := [.v (.str)]
@[reducible] def bcd_Put.rs : Rs := .tup [.v (.str), .v (.bool)]
@[reducible] noncomputable def bcd_Put.code : Code := Try.f38.body.getD .skip
noncomputable def bcd_Put.C : Ctx := ⟨tab, [digits_All.c], [], ⟨[(7, [0, 4, 5], 0)], []⟩⟩
noncomputable def bcd_Put.l0 (n : Nat) (v0 : ByteArray) (v1 : List Int) (v2 : Int) : Option ((ByteArray × Bool)) := run bcd_Put.C (finOf bcd_Put.C Try.f38 bcd_Put.rs) n (todoAt 7 bcd_Put.code) ⟨[.str v0, .junk, .junk, .junk, .sl (some 0) (.int .u8) v1, .int .i64 v2, .junk, .junk, .junk, .junk, .junk, .junk, .junk, .junk, .junk, .junk, .junk, .junk, .junk, .junk, .junk, .junk, .junk, .junk, .junk, .junk, .junk, .junk, .junk, .junk, .junk, .junk, .junk, .junk, .junk, .junk, .junk, .junk, .junk, .junk, .junk, .junk, .junk, .junk, .junk, .junk], [], [true]⟩
-- the loop at region 7
theorem bcd_Put.l0_eq (n : Nat) (v0 : ByteArray) (v1 : List Int) (v2 : Int) : bcd_Put.l0 (n + 1) v0 v1 v2 =
  (if v2 < (↑(ByteArray.size v0) : Int) then ((bget v0 v2).bind fun b2 =>
   ((bget v0 (IntKind.wrap IntKind.i64 (v2 + 1))).bind fun b3 =>
   ((lcat 1 v1 [bits BinOp.or IntKind.u8 (IntKind.wrap IntKind.u8 (IntKind.wrap IntKind.u8 ((↑(UInt8.toNat b2) : Int) - 48) * 2 ^ 4)) (IntKind.wrap IntKind.u8 ((↑(UInt8.toNat b3) : Int) - 48))]).bind fun b4 =>
   (bcd_Put.l0 n v0 b4 (IntKind.wrap IntKind.i64 (v2 + 2))))))
  else (some ((bytesOf v1, true)))) := by kernel_rfl
theorem bcd_Put.eq (n : Nat) (a0 : ByteArray) : call bcd_Put.C Try.f38 bcd_Put.code bcd_Put.sg bcd_Put.rs n a0 =
  (if (↑(ByteArray.size a0) : Int) > 999 then (some ((ByteArray.mk #[], false)))
  else ((digits_All.f a0).bind fun b0 =>
   (if ¬b0 = true then (some ((ByteArray.mk #[], false)))
   else (if ¬Int.tmod (↑(ByteArray.size a0) : Int) 2 = 0 then ((scat (ByteArray.mk #[48]) a0).bind fun b1 =>
     (if (0 : Int) = 0 ∧ 0 ≤ IntKind.wrap IntKind.i64 (Int.tdiv (↑(ByteArray.size b1) : Int) 2) ∧ 1 * IntKind.wrap IntKind.i64 (Int.tdiv (↑(ByteArray.size b1) : Int) 2) ≤ 281474976710656 ∧ IntKind.wrap IntKind.i64 (Int.tdiv (↑(ByteArray.size b1) : Int) 2) ≤ 9223372036854775807 then (bcd_Put.l0 n b1 [] 0)
     else none))
    else (if (0 : Int) = 0 ∧ 0 ≤ IntKind.wrap IntKind.i64 (Int.tdiv (↑(ByteArray.size a0) : Int) 2) ∧ 1 * IntKind.wrap IntKind.i64 (Int.tdiv (↑(ByteArray.size a0) : Int) 2) ≤ 281474976710656 ∧ IntKind.wrap IntKind.i64 (Int.tdiv (↑(ByteArray.size a0) : Int) 2) ≤ 9223372036854775807 then (bcd_Put.l0 n a0 [] 0)
     else none))))) := by kernel_rfl
def bcd_Put.f (s : ByteArray) : Option (ByteArray × Bool) := some (sb (bcdPut (bl s)).1, (bcdPut (bl s)).2)
theorem bcd_Put (l : List UInt8) : bcd_Put.f (sb l) = some (sb (bcdPut l).1, (bcdPut l).2) := rfl
theorem bcd_Put_l (l : List UInt8) (hl : l.length ≤ 2000) (hd : l.all dig = true) : ∀ (m o : List UInt8) (k i : Nat), l.drop i = m → i + m.length = l.length → m.length % 2 = 0 → o.length ≤ i → m.length < k →
    bcd_Put.l0 k (sb l) (ints o) (i : Int) = some (sb (o ++ pack m), true)
  | [], o, k, i, hm, hi, h2, ho, hk => by
    obtain ⟨k, rfl⟩ : ∃ m, k = m + 1 := ⟨k - 1, by omega⟩
    have hi' : i = l.length := by simpa using hi
    rw [bcd_Put.l0_eq, if_neg (by rw [size_sb]; omega), str_ints]; simp [pack]
  | [a], o, k, i, hm, hi, h2, ho, hk => by simp at h2
  | a :: b :: m, o, k, i, hm, hi, h2, ho, hk => by
    obtain ⟨k, rfl⟩ : ∃ m, k = m + 1 := ⟨k - 1, by omega⟩
    obtain ⟨hlt, ha, hm1⟩ := drop_cons hm
    obtain ⟨hlt1, hb, hm2⟩ := drop_cons hm1
    have da : dig a = true := by rw [← ha]; exact List.all_eq_true.1 hd _ (List.getElem_mem hlt)
    have db : dig b = true := by rw [← hb]; exact List.all_eq_true.1 hd _ (List.getElem_mem hlt1)
    have hl3 : m.length + 2 = (a :: b :: m).length := rfl
    have hm4 : m.length % 2 = 0 := by omega
    have hi2 : i + 2 + m.length = l.length := by omega
    have ho2 : o.length + 1 ≤ i + 2 := by omega
    have hk2 : m.length < k := by omega
    have hv := (two_dig da db).1
    rw [bcd_Put.l0_eq, if_pos (by rw [size_sb]; omega), bget_drop hm, Option.bind_some, wrap_succ (by omega), bget_drop hm1, Option.bind_some, pk_dig da db, lcat_ok _ _ _ (by rw [ints_length]; simp only [List.length_cons, List.length_nil]; omega), Option.bind_some, ints_snoc o _ hv, wrap_id (by omega) (by omega)]
    have := bcd_Put_l l hl hd m (o ++ [u8 (16 * (a.toNat - 48) + (b.toNat - 48))]) k (i + 2) hm2 hi2 hm4 (by rw [List.length_append]; exact ho2) hk2
    rw [show (i : Int) + 2 = ((i + 2 : Nat) : Int) from rfl, this, pack]
    simp
theorem bcd_Put_j1 (l : List UInt8) (hl : l.length ≤ 1001) (hd : l.all dig = true) (h2 : l.length % 2 = 0) :
    (if (0 : Int) = 0 ∧ 0 ≤ IntKind.wrap IntKind.i64 (Int.tdiv (↑(ByteArray.size (sb l)) : Int) 2) ∧ 1 * IntKind.wrap IntKind.i64 (Int.tdiv (↑(ByteArray.size (sb l)) : Int) 2) ≤ 281474976710656 ∧ IntKind.wrap IntKind.i64 (Int.tdiv (↑(ByteArray.size (sb l)) : Int) 2) ≤ 9223372036854775807 then (bcd_Put.l0 1002 (sb l) [] 0) else none) = some (sb (pack l), true) := by
  have t1 : Int.tdiv (l.length : Int) 2 = ((l.length / 2 : Nat) : Int) := tdiv_nat l.length 2
  rw [size_sb, t1, wrap_nat (by omega), if_pos ⟨rfl, by omega, by omega, by omega⟩]
  exact bcd_Put_l l (by omega) hd l [] _ 0 rfl (by simp) h2 (Nat.le_refl _) (by omega)
theorem bcd_Put.run (l : List UInt8) : call bcd_Put.C Try.f38 bcd_Put.code bcd_Put.sg bcd_Put.rs 1002 (sb l) = some (sb (bcdPut l).1, (bcdPut l).2) := by
  rw [bcd_Put.eq]
  unfold bcdPut
  by_cases h1 : 999 < l.length
  · rw [if_pos (by rw [size_sb]; omega), if_pos (.inl h1)]; rfl
  · rw [if_neg (by rw [size_sb]; omega), digits_All, Option.bind_some]
    cases hd : l.all dig with
    | false => rw [if_pos (by decide), if_pos (.inr rfl)]; rfl
    | true =>
      have t2 : Int.tmod (l.length : Int) 2 = ((l.length % 2 : Nat) : Int) := tmod_nat l.length 2
      have hn : ¬ (999 < l.length ∨ true = false) := by simp; omega
      rw [if_neg (by decide), if_neg hn]
      by_cases h2 : l.length % 2 = 0
      · have e : even0 l = l := if_pos h2
        rw [if_neg (by rw [size_sb, t2]; omega), e]
        exact bcd_Put_j1 l (by omega) hd h2
      · have e : even0 l = u8 48 :: l := if_neg h2
        rw [if_pos (by rw [size_sb, t2]; omega), e, show (ByteArray.mk #[48]) = sb [u8 48] from rfl, scat_sb _ _ (by simp; omega), Option.bind_some]
        exact bcd_Put_j1 (u8 48 :: l) (by simp; omega) (by rw [List.all_cons, hd]; decide) (by rw [List.length_cons]; omega)
noncomputable def bcd_Put.c : Con := ⟨38, bcd_Put.sg, bcd_Put.rs, bcd_Put.f⟩
theorem bcd_Put.con : ConOk Try.prog bcd_Put.c := walked (C := bcd_Put.C) rfl (by kernel_rfl) (by kernel_rfl) (by kernel_rfl) rfl ⟨digits_All.con, trivial⟩ fun s y h => by
  obtain ⟨l, rfl⟩ := ex_sb s
  exact ⟨1002, (bcd_Put.run l).trans h⟩
/-! ### bcd_Size -/
@[reducible] def bcd_Size.sg : List Shp := [.v (.int .i64)]
@[reducible] def bcd_Size.rs : Rs := .one (.v (.int .i64))
@[reducible] noncomputable def bcd_Size.code : Code := Try.f66.body.getD .skip
noncomputable def bcd_Size.C : Ctx := ⟨tab, [], [], ⟨[], []⟩⟩
theorem bcd_Size.eq (n : Nat) (a0 : Int) : call bcd_Size.C Try.f66 bcd_Size.code bcd_Size.sg bcd_Size.rs n a0 =
  (if a0 < 1 then (some 0)
  else (some (IntKind.wrap IntKind.i64 (IntKind.wrap IntKind.i64 (Int.tdiv a0 2) + Int.tmod a0 2)))) := by kernel_rfl
noncomputable def bcd_Size.f : El (sgTy bcd_Size.sg) → Option (El bcd_Size.rs.ty) := fun x => match x with
  | a0 =>
  (if a0 < 1 then (some 0)
  else (some (IntKind.wrap IntKind.i64 (IntKind.wrap IntKind.i64 (Int.tdiv a0 2) + Int.tmod a0 2))))
noncomputable def bcd_Size.c : Con := ⟨66, bcd_Size.sg, bcd_Size.rs, bcd_Size.f⟩
theorem bcd_Size.con : ConOk Try.prog bcd_Size.c := walked (C := bcd_Size.C) rfl (by kernel_rfl) (by kernel_rfl) (by kernel_rfl) rfl trivial fun a0 y h => ⟨0, (bcd_Size.eq 0 a0).trans h⟩
theorem bcd_Size (n : Nat) (hn : n ≤ 1000000) : bcd_Size.f (n : Int) = some (((n + 1) / 2 : Nat) : Int) := by
  show (if (n : Int) < 1 then some 0 else some (IntKind.wrap IntKind.i64 (IntKind.wrap IntKind.i64 (Int.tdiv (n : Int) 2) + Int.tmod (n : Int) 2))) = _
  by_cases h : n < 1
  · rw [if_pos (by omega)]
    have : n = 0 := by omega
    subst this; rfl
  · have t1 : Int.tdiv (n : Int) 2 = ((n / 2 : Nat) : Int) := tdiv_nat n 2
    have t2 : Int.tmod (n : Int) 2 = ((n % 2 : Nat) : Int) := tmod_nat n 2
    rw [if_neg (by omega), t1, t2, wrap_nat (by omega), wrap_id (by omega) (by omega)]
    congr 1; omega
end Go.Proofs.Ytjbhknfdfnilbaa.Xe
