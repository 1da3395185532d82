/- What the program's and the reference's functions on classes answer. -/
import Derived.Test.YtjbhknfdfnilbaaNgb
import Derived.Test.YtjbhknfdfnilbaaXgh
namespace Go.Proofs.Ytjbhknfdfnilbaa.Xe
open Go Go.RowKit Go.Proofs.Ytjbhknfdfnilbaa.Sp
set_option linter.unusedVariables false
set_option linter.unusedSimpArgs false
/-! ### class_sets -/
@[reducible] def class_sets.sg : List Shp := [.v (.int .i64)]
@[reducible] def class_sets.rs : Rs := .one (.v (.int .i64))
@[reducible] noncomputable def class_sets.code : Code := Try.f115.body.getD .skip
noncomputable def class_sets.C : Ctx := ⟨tab, [], [], ⟨[], []⟩⟩
theorem class_sets.eq (n : Nat) (a0 : Int) : call class_sets.C Try.f115 class_sets.code class_sets.sg class_sets.rs n a0 =
  (if a0 = 1 then (some 1)
  else (if a0 = 2 then (some 2)
   else (if a0 = 3 then (some 3)
    else (if a0 = 4 then (some 7)
     else (if a0 = 5 then (some 15)
      else (if a0 = 6 then (some 15)
       else (some 0))))))) := by kernel_rfl
def class_sets.f (c : Int) : Option Int := some (setsC c)
noncomputable def class_sets.c : Con := ⟨115, class_sets.sg, class_sets.rs, class_sets.f⟩
theorem class_sets.con : ConOk Try.prog class_sets.c := walked (C := class_sets.C) rfl (by kernel_rfl) (by kernel_rfl) (by kernel_rfl) rfl trivial fun c y h => ⟨0, by
  rw [class_sets.eq, ← h, class_sets.f, setsC]
  repeat' split
  all_goals rfl⟩
/-! ### class_Known -/
@[reducible] def class_Known.sg : List Shp := [.v (.int .i64)]
@[reducible] def class_Known.rs : Rs := .one (.v (.bool))
@[reducible] noncomputable def class_Known.code : Code := Try.f99.body.getD .skip
noncomputable def class_Known.C : Ctx := ⟨tab, [class_sets.c], [], ⟨[], []⟩⟩
theorem class_Known.eq (n : Nat) (a0 : Int) : call class_Known.C Try.f99 class_Known.code class_Known.sg class_Known.rs n a0 =
  ((class_sets.f a0).bind fun b0 =>
  (some (decide ¬b0 = 0))) := by kernel_rfl
def class_Known.f (c : Int) : Option Bool := some (decide (1 ≤ c ∧ c ≤ 6))
noncomputable def class_Known.c : Con := ⟨99, class_Known.sg, class_Known.rs, class_Known.f⟩
theorem class_Known.con : ConOk Try.prog class_Known.c := walked (C := class_Known.C) rfl (by kernel_rfl) (by kernel_rfl) (by kernel_rfl) rfl ⟨class_sets.con, trivial⟩ fun c y h => ⟨0, by
  rw [class_Known.eq, ← h, class_Known.f, class_sets.f, Option.bind_some, ← known_iff]
  congr 1
  by_cases h : setsC c = 0 <;> simp [h]⟩
/-! ### class_of -/
@[reducible] def class_of.sg : List Shp := [.v (.int .u8)]
@[reducible] def class_of.rs : Rs := .one (.v (.int .i64))
@[reducible] noncomputable def class_of.code : Code := Try.f116.body.getD .skip
noncomputable def class_of.C : Ctx := ⟨tab, [], [], ⟨[], [(1, [(3, .bool)]), (3, [(10, .bool)]), (5, [(25, .bool)])]⟩⟩
theorem class_of.eq (n : Nat) (a0 : Int) : call class_of.C Try.f116 class_of.code class_of.sg class_of.rs n a0 =
  ((((if a0 ≥ 48 then (some (decide (a0 ≤ 57)))
   else (some false)) : Option Bool)).bind fun b0 =>
  (if b0 = true then (some 1)
  else ((((if a0 ≥ 65 then (if a0 ≤ 90 then (some true)
     else (if a0 ≥ 97 then (some (decide (a0 ≤ 122)))
      else (some false)))
    else (if a0 ≥ 97 then (some (decide (a0 ≤ 122)))
     else (some false))) : Option Bool)).bind fun b1 =>
   (if b1 = true then (some 2)
   else ((((if a0 ≥ 32 then (some (decide (a0 ≤ 126)))
     else (some false)) : Option Bool)).bind fun b2 =>
    (if b2 = true then (some 4)
    else (some 8))))))) := by kernel_rfl
def class_of.f (n : Int) : Option Int := if 0 ≤ n ∧ n < 256 then some (ofN n) else none
noncomputable def class_of.c : Con := ⟨116, class_of.sg, class_of.rs, class_of.f⟩
theorem class_of256 : ∀ n : Fin 256, call class_of.C Try.f116 class_of.code class_of.sg class_of.rs 0 ((n.val : Nat) : Int) = some (ofN ((n.val : Nat) : Int)) := by
  intro n
  rw [class_of.eq]
  revert n
  decide +kernel
theorem class_of.con : ConOk Try.prog class_of.c := walked (C := class_of.C) rfl (by kernel_rfl) (by kernel_rfl) (by kernel_rfl) rfl trivial fun c y h => ⟨0, by
  have h : class_of.f c = some y := h
  unfold class_of.f at h
  split at h
  · rename_i hc
    have := class_of256 ⟨c.toNat, by omega⟩
    rw [show ((c.toNat : Nat) : Int) = c by omega] at this
    rw [← h]; exact this
  · cases h⟩
theorem class_of (x : UInt8) : class_of.f (x.toNat : Int) = some (ofN x.toNat) := by
  have := u8_lt x
  unfold class_of.f; rw [if_pos (by omega)]
/-! ### class_First -/
@[reducible] def class_First.sg : List Shp := [.v (.int .i64), .v (.str)]
@[reducible] def class_First.rs : Rs := .one (.v (.int .i64))
@[reducible] noncomputable def class_First.code : Code := Try.f91.body.getD .skip
noncomputable def class_First.C : Ctx := ⟨tab, [class_sets.c, class_of.c], [], ⟨[(3, [1, 5, 6], 0)], []⟩⟩
noncomputable def class_First.l0 (n : Nat) (v0 : ByteArray) (v1 : Int) (v2 : Int) : Option Int := run class_First.C (finOf class_First.C Try.f91 class_First.rs) n (todoAt 3 class_First.code) ⟨[.junk, .str v0, .junk, .junk, .junk, .int .i64 v1, .int .i64 v2, .junk, .junk, .junk, .junk, .junk, .junk, .junk, .junk, .junk, .junk, .junk, .junk, .junk, .junk, .junk, .junk], [], []⟩
-- the loop at region 3
theorem class_First.l0_eq (n : Nat) (v0 : ByteArray) (v1 : Int) (v2 : Int) : class_First.l0 (n + 1) v0 v1 v2 =
  (if v2 < (↑(ByteArray.size v0) : Int) then ((bget v0 v2).bind fun b1 =>
   ((class_of.f (↑(UInt8.toNat b1) : Int)).bind fun b2 =>
   (if bits BinOp.and IntKind.i64 v1 b2 = 0 then (some v2)
   else (class_First.l0 n v0 v1 (IntKind.wrap IntKind.i64 (v2 + 1))))))
  else (some (-1))) := by kernel_rfl
theorem class_First.eq (n : Nat) (a0 : Int) (a1 : ByteArray) : call class_First.C Try.f91 class_First.code class_First.sg class_First.rs n (a0, a1) =
  ((class_sets.f a0).bind fun b0 =>
  (class_First.l0 n a1 b0 0)) := by kernel_rfl
def class_First.f (x : Int × ByteArray) : Option Int := if x.2.size ≤ 140737488351232 then some (firstFrom (inC x.1) 0 (bl x.2)) else none
noncomputable def class_First.c : Con := ⟨91, class_First.sg, class_First.rs, class_First.f⟩
theorem class_First_l (c : Int) (l : List UInt8) (hl : l.length ≤ 140737488351232) : ∀ (d k i : Nat), i + d = l.length → d < k → class_First.l0 k (sb l) (setsC c) (i : Int) = some (firstFrom (inC c) i (l.drop i))
  | 0, k, i, hd, hk => by
    obtain ⟨k, rfl⟩ : ∃ m, k = m + 1 := ⟨k - 1, by omega⟩
    rw [class_First.l0_eq, if_neg (by rw [size_sb]; omega), List.drop_of_length_le (by omega)]; rfl
  | d + 1, k, i, hd, hk => by
    obtain ⟨k, rfl⟩ : ∃ m, k = m + 1 := ⟨k - 1, by omega⟩
    have hi : i < l.length := by omega
    have ih := class_First_l c l hl d k (i + 1) (by omega) (by omega)
    rw [class_First.l0_eq, if_pos (by rw [size_sb]; omega), bget_sb _ _ hi, Option.bind_some, class_of, Option.bind_some, wrap_succ (by omega), ih, List.drop_eq_getElem_cons hi, firstFrom]
    have h := and_in c l[i]
    cases hx : inC c l[i] with
    | true =>
      rw [hx] at h
      rw [if_neg (of_decide_eq_false h), if_pos rfl]
    | false =>
      rw [hx] at h
      rw [if_pos (of_decide_eq_true h)]; rfl
theorem class_First (c : Int) (l : List UInt8) (hl : l.length ≤ 140737488351232) : class_First.f (c, sb l) = some (firstFrom (inC c) 0 l) := by
  unfold class_First.f
  rw [if_pos (by rw [size_sb]; exact hl), bl_sb]
theorem class_First.con : ConOk Try.prog class_First.c := walked (C := class_First.C) rfl (by kernel_rfl) (by kernel_rfl) (by kernel_rfl) rfl ⟨class_sets.con, class_of.con, trivial⟩ fun ⟨c, s⟩ y h => by
  obtain ⟨l, rfl⟩ := ex_sb s
  have h : class_First.f (c, sb l) = some y := h
  unfold class_First.f at h
  split at h
  · rename_i hl
    rw [size_sb] at hl
    refine ⟨l.length + 1, ?_⟩
    rw [class_First.eq, class_sets.f, Option.bind_some, ← h]
    exact class_First_l c l hl l.length _ 0 (by omega) (by omega)
  · cases h
end Go.Proofs.Ytjbhknfdfnilbaa.Xe
