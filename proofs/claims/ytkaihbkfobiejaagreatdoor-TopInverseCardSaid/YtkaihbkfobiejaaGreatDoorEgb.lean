import Derived.Test.YtkaihbkfobiejaaGreatDoorNgb
import Derived.Test.YtkaihbkfobiejaaGreatDoorXgh
import Derived.Test.YtkaihbkfobiejaaGreatDoorNgc
/- What the program's and the reference's functions on classes answer. -/
namespace Go.Proofs.YtkaihbkfobiejaaGreatDoor.Xe
open Go Go.RowKit Go.Proofs.YtkaihbkfobiejaaGreatDoor.Sp
set_option linter.unusedVariables false
set_option linter.unusedSimpArgs false
/-! ### class_sets -/
@[reducible] def class_sets.sg : List Shp := [.v (.int .i64)]
@[reducible] def class_sets.rs : Rs := .one (.v (.int .i64))
@[reducible] noncomputable def class_sets.code : Code := Tryz.f126.body.getD .skip
noncomputable def class_sets.C : Ctx := ⟨tab, [], [], ⟨[], []⟩⟩
theorem class_sets.eq (n : Nat) (a0 : Int) : call class_sets.C Tryz.f126 class_sets.code class_sets.sg class_sets.rs n a0 =
  (if a0 = 1 then (some 1)
  else (if a0 = 2 then (some 2)
   else (if a0 = 3 then (some 3)
    else (if a0 = 4 then (some 7)
     else (if a0 = 5 then (some 15)
      else (if a0 = 6 then (some 15)
       else (some 0))))))) := by kernel_rfl
def class_sets.f (c : Int) : Option Int := some (setsC c)
noncomputable def class_sets.c : Con := ⟨126, class_sets.sg, class_sets.rs, class_sets.f⟩
theorem class_sets.con : ConOk Tryz.prog class_sets.c := walked (C := class_sets.C) rfl (by kernel_rfl) (by kernel_rfl) (by kernel_rfl) rfl trivial fun c y h => ⟨0, by
  rw [class_sets.eq, ← h, class_sets.f, setsC]
  repeat' split
  all_goals rfl⟩
/-! ### class_Known -/
@[reducible] def class_Known.sg : List Shp := [.v (.int .i64)]
@[reducible] def class_Known.rs : Rs := .one (.v (.bool))
@[reducible] noncomputable def class_Known.code : Code := Tryz.f124.body.getD .skip
noncomputable def class_Known.C : Ctx := ⟨tab, [class_sets.c], [], ⟨[], []⟩⟩
theorem class_Known.eq (n : Nat) (a0 : Int) : call class_Known.C Tryz.f124 class_Known.code class_Known.sg class_Known.rs n a0 =
  ((class_sets.f a0).bind fun b0 =>
  (some (decide ¬b0 = 0))) := by kernel_rfl
def class_Known.f (c : Int) : Option Bool := some (decide (1 ≤ c ∧ c ≤ 6))
noncomputable def class_Known.c : Con := ⟨124, class_Known.sg, class_Known.rs, class_Known.f⟩
theorem class_Known.con : ConOk Tryz.prog class_Known.c := walked (C := class_Known.C) rfl (by kernel_rfl) (by kernel_rfl) (by kernel_rfl) rfl ⟨class_sets.con, trivial⟩ fun c y h => ⟨0, by
  rw [class_Known.eq, ← h, class_Known.f, class_sets.f, Option.bind_some, ← known_iff]
  congr 1
  by_cases h : setsC c = 0 <;> simp [h]⟩
/-! ### class_of -/
@[reducible] def class_of.sg : List Shp := [.v (.int .u8)]
@[reducible] def class_of.rs : Rs := .one (.v (.int .i64))
@[reducible] noncomputable def class_of.code : Code := Tryz.f127.body.getD .skip
noncomputable def class_of.C : Ctx := ⟨tab, [], [], ⟨[], [(1, [(3, .bool)]), (3, [(10, .bool)]), (5, [(25, .bool)])]⟩⟩
theorem class_of.eq (n : Nat) (a0 : Int) : call class_of.C Tryz.f127 class_of.code class_of.sg class_of.rs n a0 =
  ((((if a0 ≥ 48 then (some (decide (a0 ≤ 57)))
   else (some false)) : Option Bool)).bind fun b0 =>
  (if b0 = true then (some 1)
  else ((((if a0 ≥ 65 then (if a0 ≤ 90 then (some true)
     else (if a0 ≥ 97 then (some (decide (a0 ≤ 122)))
      else (some false)))
    else (if a0 ≥ 97 then (some (decide (a0 ≤ 122)))
     else (some false))) : Option Bool)).bind fun b1 =>
   (if b1 = true then (some 2)
   else ((((if a0 ≥ 32 then (some (decide (a0 ≤ 126)))
     else (some false)) : Option Bool)).bind fun b2 =>
    (if b2 = true then (some 4)
    else (some 8))))))) := by kernel_rfl
def class_of.f (n : Int) : Option Int := if 0 ≤ n ∧ n < 256 then some (ofN n) else none
noncomputable def class_of.c : Con := ⟨127, class_of.sg, class_of.rs, class_of.f⟩
theorem class_of256 : ∀ n : Fin 256, call class_of.C Tryz.f127 class_of.code class_of.sg class_of.rs 0 ((n.val : Nat) : Int) = some (ofN ((n.val : Nat) : Int)) := by
  intro n
  rw [class_of.eq]
  revert n
  decide +kernel
theorem class_of.con : ConOk Tryz.prog class_of.c := walked (C := class_of.C) rfl (by kernel_rfl) (by kernel_rfl) (by kernel_rfl) rfl trivial fun c y h => ⟨0, by
  have h : class_of.f c = some y := h
  unfold class_of.f at h
  split at h
  · rename_i hc
    have := class_of256 ⟨c.toNat, by omega⟩
    rw [show ((c.toNat : Nat) : Int) = c by omega] at this
    rw [← h]; exact this
  · cases h⟩
theorem class_of (x : UInt8) : class_of.f (x.toNat : Int) = some (ofN x.toNat) := by
  have := u8_lt x
  unfold class_of.f; rw [if_pos (by omega)]
/-! ### class_First -/
@[reducible] def class_First.sg : List Shp := [.v (.int .i64), .v (.str)]
@[reducible] def class_First.rs : Rs := .one (.v (.int .i64))
@[reducible] noncomputable def class_First.code : Code := Tryz.f90.body.getD .skip
noncomputable def class_First.C : Ctx := ⟨tab, [class_sets.c, class_of.c], [], ⟨[(3, [1, 5, 6], 0)], []⟩⟩
noncomputable def class_First.l0 (n : Nat) (v0 : ByteArray) (v1 : Int) (v2 : Int) : Option Int := run class_First.C (finOf class_First.C Tryz.f90 class_First.rs) n (todoAt 3 class_First.code) ⟨[.junk, .str v0, .junk, .junk, .junk, .int .i64 v1, .int .i64 v2, .junk, .junk, .junk, .junk, .junk, .junk, .junk, .junk, .junk, .junk, .junk, .junk, .junk, .junk, .junk, .junk], [], []⟩
-- the loop at region 3
theorem class_First.l0_eq (n : Nat) (v0 : ByteArray) (v1 : Int) (v2 : Int) : class_First.l0 (n + 1) v0 v1 v2 =
  (if v2 < (↑(ByteArray.size v0) : Int) then ((bget v0 v2).bind fun b1 =>
   ((class_of.f (↑(UInt8.toNat b1) : Int)).bind fun b2 =>
   (if bits BinOp.and IntKind.i64 v1 b2 = 0 then (some v2)
   else (class_First.l0 n v0 v1 (IntKind.wrap IntKind.i64 (v2 + 1))))))
  else (some (-1))) := by kernel_rfl
theorem class_First.eq (n : Nat) (a0 : Int) (a1 : ByteArray) : call class_First.C Tryz.f90 class_First.code class_First.sg class_First.rs n (a0, a1) =
  ((class_sets.f a0).bind fun b0 =>
  (class_First.l0 n a1 b0 0)) := by kernel_rfl
def class_First.f (x : Int × ByteArray) : Option Int := if x.2.size ≤ 140737488351232 then some (firstFrom (inC x.1) 0 (bl x.2)) else none
noncomputable def class_First.c : Con := ⟨90, class_First.sg, class_First.rs, class_First.f⟩
theorem class_First_l (c : Int) (l : List UInt8) (hl : l.length ≤ 140737488351232) : ∀ (d k i : Nat), i + d = l.length → d < k → class_First.l0 k (sb l) (setsC c) (i : Int) = some (firstFrom (inC c) i (l.drop i))
  | 0, k, i, hd, hk => by
    obtain ⟨k, rfl⟩ : ∃ m, k = m + 1 := ⟨k - 1, by omega⟩
    rw [class_First.l0_eq, if_neg (by rw [size_sb]; omega), List.drop_of_length_le (by omega)]; rfl
  | d + 1, k, i, hd, hk => by
    obtain ⟨k, rfl⟩ : ∃ m, k = m + 1 := ⟨k - 1, by omega⟩
    have hi : i < l.length := by omega
    have ih := class_First_l c l hl d k (i + 1) (by omega) (by omega)
    rw [class_First.l0_eq, if_pos (by rw [size_sb]; omega), bget_sb _ _ hi, Option.bind_some, class_of, Option.bind_some, wrap_succ (by omega), ih, List.drop_eq_getElem_cons hi, firstFrom]
    have h := and_in c l[i]
    cases hx : inC c l[i] with
    | true =>
      rw [hx] at h
      rw [if_neg (of_decide_eq_false h), if_pos rfl]
    | false =>
      rw [hx] at h
      rw [if_pos (of_decide_eq_true h)]; rfl
theorem class_First (c : Int) (l : List UInt8) (hl : l.length ≤ 140737488351232) : class_First.f (c, sb l) = some (firstFrom (inC c) 0 l) := by
  unfold class_First.f
  rw [if_pos (by rw [size_sb]; exact hl), bl_sb]
theorem class_First.con : ConOk Tryz.prog class_First.c := walked (C := class_First.C) rfl (by kernel_rfl) (by kernel_rfl) (by kernel_rfl) rfl ⟨class_sets.con, class_of.con, trivial⟩ fun ⟨c, s⟩ y h => by
  obtain ⟨l, rfl⟩ := ex_sb s
  have h : class_First.f (c, sb l) = some y := h
  unfold class_First.f at h
  split at h
  · rename_i hl
    rw [size_sb] at hl
    refine ⟨l.length + 1, ?_⟩
    rw [class_First.eq, class_sets.f, Option.bind_some, ← h]
    exact class_First_l c l hl l.length _ 0 (by omega) (by omega)
  · cases h
end Go.Proofs.YtkaihbkfobiejaaGreatDoor.Xe

/- What the program's functions on specs answer: the check. -/
namespace Go.Proofs.YtkaihbkfobiejaaGreatDoor.Xe
open Go Go.RowKit Go.Proofs.YtkaihbkfobiejaaGreatDoor.Sp
set_option linter.unusedVariables false
set_option linter.unusedSimpArgs false
/-! ### prefix_width -/
@[reducible] def prefix_width.sg : List Shp := [.v (.int .i64)]
@[reducible] def prefix_width.rs : Rs := .one (.v (.int .i64))
@[reducible] noncomputable def prefix_width.code : Code := Tryz.f123.body.getD .skip
noncomputable def prefix_width.C : Ctx := ⟨tab, [], [], ⟨[], []⟩⟩
theorem prefix_width.eq (n : Nat) (a0 : Int) : call prefix_width.C Tryz.f123 prefix_width.code prefix_width.sg prefix_width.rs n a0 =
  (if a0 = 2 then (some 2)
  else (if a0 = 3 then (some 3)
   else (some 0))) := by kernel_rfl
def prefix_width.f (f : Int) : Option Int := some (if f = 2 ∨ f = 3 then f else 0)
noncomputable def prefix_width.c : Con := ⟨123, prefix_width.sg, prefix_width.rs, prefix_width.f⟩
theorem prefix_width.con : ConOk Tryz.prog prefix_width.c := walked (C := prefix_width.C) rfl (by kernel_rfl) (by kernel_rfl) (by kernel_rfl) rfl trivial fun (f : Int) y h => ⟨0, by
  rw [prefix_width.eq, ← h, prefix_width.f]
  by_cases h2 : f = 2
  · simp [h2]
  · by_cases h3 : f = 3 <;> simp [h2, h3]⟩
/-! ### prefix_Most -/
@[reducible] def prefix_Most.sg : List Shp := [.v (.int .i64)]
@[reducible] def prefix_Most.rs : Rs := .one (.v (.int .i64))
@[reducible] noncomputable def prefix_Most.code : Code := Tryz.f125.body.getD .skip
noncomputable def prefix_Most.C : Ctx := ⟨tab, [prefix_width.c], [], ⟨[(3, [3, 5, 6], 0)], []⟩⟩
noncomputable def prefix_Most.l0 (n : Nat) (v0 : Int) (v1 : Int) (v2 : Int) : Option Int := run prefix_Most.C (finOf prefix_Most.C Tryz.f125 prefix_Most.rs) n (todoAt 3 prefix_Most.code) ⟨[.junk, .junk, .junk, .int .i64 v0, .junk, .int .i64 v1, .int .i64 v2, .junk, .junk, .junk, .junk, .junk, .junk], [], []⟩
-- the loop at region 3
theorem prefix_Most.l0_eq (n : Nat) (v0 : Int) (v1 : Int) (v2 : Int) : prefix_Most.l0 (n + 1) v0 v1 v2 =
  (if v2 < v1 then (prefix_Most.l0 n (IntKind.wrap IntKind.i64 (IntKind.wrap IntKind.i64 (10 * v0) + 9)) v1 (IntKind.wrap IntKind.i64 (v2 + 1)))
  else (some v0)) := by kernel_rfl
theorem prefix_Most.eq (n : Nat) (a0 : Int) : call prefix_Most.C Tryz.f125 prefix_Most.code prefix_Most.sg prefix_Most.rs n a0 =
  ((prefix_width.f a0).bind fun b0 =>
  (prefix_Most.l0 n 0 b0 0)) := by kernel_rfl
def prefix_Most.f (f : Int) : Option Int := some (preMost f)
noncomputable def prefix_Most.c : Con := ⟨125, prefix_Most.sg, prefix_Most.rs, prefix_Most.f⟩
theorem prefix_Most.con : ConOk Tryz.prog prefix_Most.c := walked (C := prefix_Most.C) rfl (by kernel_rfl) (by kernel_rfl) (by kernel_rfl) rfl ⟨prefix_width.con, trivial⟩ fun (f : Int) y h => ⟨9, by
  rw [prefix_Most.eq, ← h, prefix_width.f, prefix_Most.f, Option.bind_some]
  unfold preMost
  by_cases h2 : f = 2
  · subst h2; kernel_rfl
  · by_cases h3 : f = 3
    · subst h3; kernel_rfl
    · rw [if_neg (fun h => h.elim h2 h3), if_neg h2, if_neg h3]; kernel_rfl⟩
/-! ### spec_Check -/
@[reducible] def spec_Check.sg : List Shp := [.a (.pair (.int .i64) (.pair (.int .i64) (.pair (.int .i64) (.pair (.int .i64) (.int .i64)))))]
@[reducible] def spec_Check.rs : Rs := .one (.v (.int .i64))
@[reducible] noncomputable def spec_Check.code : Code := Tryz.f89.body.getD .skip
noncomputable def spec_Check.C : Ctx := ⟨tab, [class_Known.c, prefix_Most.c], [], ⟨[], []⟩⟩
theorem spec_Check.eq (n : Nat) (a0 : Int) (a1 : Int) (a2 : Int) (a3 : Int) (a4 : Int) : call spec_Check.C Tryz.f89 spec_Check.code spec_Check.sg spec_Check.rs n (a0, (a1, (a2, (a3, a4)))) =
  (if a0 < 2 then (some 1)
  else (if a0 > 128 then (some 1)
   else ((class_Known.f a1).bind fun b0 =>
    (if ¬b0 = true then (some 6)
    else (if a2 < 1 then (some 3)
     else (if a2 > 3 then (some 3)
      else (if a3 < 1 then (some 5)
       else (if a3 > a4 then (some 5)
        else (if a4 > 999 then (some 5)
         else (if a2 = 1 then (if ¬a3 = a4 then (some 5)
           else (if ¬a2 = 1 then ((prefix_Most.f a2).bind fun b1 =>
             (if a4 > b1 then (some 5)
             else (if a2 = 1 then (if a1 = 6 then (some 13)
               else (some 0))
              else (some 0))))
            else (if a2 = 1 then (if a1 = 6 then (some 13)
              else (some 0))
             else (some 0))))
          else (if ¬a2 = 1 then ((prefix_Most.f a2).bind fun b2 =>
            (if a4 > b2 then (some 5)
            else (if a2 = 1 then (if a1 = 6 then (some 13)
              else (some 0))
             else (some 0))))
           else (if a2 = 1 then (if a1 = 6 then (some 13)
             else (some 0))
            else (some 0))))))))))))) := by kernel_rfl
def spec_Check.f (x : Int × Int × Int × Int × Int) : Option Int := some (specE x.1 x.2.1 x.2.2.1 x.2.2.2.1 x.2.2.2.2)
theorem spec_Check.run (no c fo mi ma : Int) : call spec_Check.C Tryz.f89 spec_Check.code spec_Check.sg spec_Check.rs 0 (no, c, fo, mi, ma) = some (specE no c fo mi ma) := by
  rw [spec_Check.eq]
  simp only [class_Known.f, prefix_Most.f, Option.bind_some, specE, decide_eq_true_eq]
  by_cases h1 : no < 2
  · rw [if_pos h1, if_pos (.inl h1)]
  rw [if_neg h1]
  by_cases h2 : no > 128
  · rw [if_pos h2, if_pos (.inr h2)]
  have h12 : ¬ (no < 2 ∨ 128 < no) := by omega
  rw [if_neg h2, if_neg h12]
  by_cases h3 : ¬ (1 ≤ c ∧ c ≤ 6)
  · rw [if_pos h3, if_pos h3]
  rw [if_neg h3, if_neg h3]
  by_cases h4 : ¬ (1 ≤ fo ∧ fo ≤ 3)
  · rw [if_pos h4]
    by_cases h41 : fo < 1
    · rw [if_pos h41]
    · have h42 : fo > 3 := by omega
      rw [if_neg h41, if_pos h42]
  have h41 : ¬ fo < 1 := by omega
  have h42 : ¬ fo > 3 := by omega
  rw [if_neg h41, if_neg h42, if_neg h4]
  by_cases a1 : mi < 1
  · simp [a1]
  by_cases a2 : mi > ma
  · simp [a1, a2]
  by_cases a3 : ma > 999
  · have a4 : (if fo = 2 then 99 else 999) < ma := by split <;> omega
    simp [a1, a2, a3, a4]
  rw [if_neg a1, if_neg a2, if_neg a3]
  rcases (show fo = 1 ∨ fo = 2 ∨ fo = 3 by omega) with rfl | rfl | rfl
  · by_cases a4 : mi = ma
    · subst a4
      by_cases a5 : c = 6 <;> simp [a1, a3, a5]
    · simp [a1, a2, a4]
  · have hm : preMost 2 = 99 := rfl
    rw [hm]
    by_cases a4 : ma > 99 <;> simp [a1, a2, a4]
  · have hm : preMost 3 = 999 := rfl
    rw [hm]
    simp [a1, a2, a3]
noncomputable def spec_Check.c : Con := ⟨89, spec_Check.sg, spec_Check.rs, spec_Check.f⟩
theorem spec_Check.con : ConOk Tryz.prog spec_Check.c := walked (C := spec_Check.C) rfl (by kernel_rfl) (by kernel_rfl) (by kernel_rfl) rfl ⟨class_Known.con, prefix_Most.con, trivial⟩ fun ⟨no, c, fo, mi, ma⟩ y h => ⟨0, (spec_Check.run no c fo mi ma).trans h⟩
end Go.Proofs.YtkaihbkfobiejaaGreatDoor.Xe

/- What the program's readers of tags and sizes answer. -/
namespace Go.Proofs.YtkaihbkfobiejaaGreatDoor.Xe
open Go Go.RowKit Go.Proofs.YtkaihbkfobiejaaGreatDoor.Sp
set_option linter.unusedVariables false
set_option linter.unusedSimpArgs false
set_option maxRecDepth 100000
/-! ### tag_first -/
@[reducible] def tag_first.sg : List Shp := [.v (.int .i64)]
@[reducible] def tag_first.rs : Rs := .one (.v (.bool))
@[reducible] noncomputable def tag_first.code : Code := Tryz.f150.body.getD .skip
noncomputable def tag_first.C : Ctx := ⟨tab, [], [], ⟨[], []⟩⟩
theorem tag_first.eq (n : Nat) (a0 : Int) : call tag_first.C Tryz.f150 tag_first.code tag_first.sg tag_first.rs n a0 =
  (if a0 > 0 then (if a0 ≤ 255 then (some (decide (bits BinOp.and IntKind.i64 a0 32 = 0)))
   else (some false))
  else (some false)) := by kernel_rfl
noncomputable def tag_first.f : El (sgTy tag_first.sg) → Option (El tag_first.rs.ty) := fun x => match x with
  | a0 =>
  (if a0 > 0 then (if a0 ≤ 255 then (some (decide (bits BinOp.and IntKind.i64 a0 32 = 0)))
   else (some false))
  else (some false))
noncomputable def tag_first.c : Con := ⟨150, tag_first.sg, tag_first.rs, tag_first.f⟩
theorem tag_first.con : ConOk Tryz.prog tag_first.c := walked (C := tag_first.C) rfl (by kernel_rfl) (by kernel_rfl) (by kernel_rfl) rfl trivial fun a0 y h => ⟨0, (tag_first.eq 0 a0).trans h⟩
/-! ### tag_Right -/
@[reducible] def tag_Right.sg : List Shp := [.v (.int .i64)]
@[reducible] def tag_Right.rs : Rs := .one (.v (.bool))
@[reducible] noncomputable def tag_Right.code : Code := Tryz.f151.body.getD .skip
noncomputable def tag_Right.C : Ctx := ⟨tab, [tag_first.c], [], ⟨[], []⟩⟩
theorem tag_Right.eq (n : Nat) (a0 : Int) : call tag_Right.C Tryz.f151 tag_Right.code tag_Right.sg tag_Right.rs n a0 =
  (if a0 ≤ 255 then ((tag_first.f a0).bind fun b0 =>
   (if b0 = true then (some (decide ¬bits BinOp.and IntKind.i64 a0 31 = 31))
   else (some false)))
  else (if a0 ≤ 65535 then ((tag_first.f (Int.fdiv a0 (2 ^ 8))).bind fun b1 =>
    (if b1 = true then (if bits BinOp.and IntKind.i64 (Int.fdiv a0 (2 ^ 8)) 31 = 31 then (if bits BinOp.and IntKind.i64 a0 255 ≥ 1 then (some (decide (bits BinOp.and IntKind.i64 a0 255 ≤ 127)))
      else (some false))
     else (some false))
    else (some false)))
   else (some false))) := by kernel_rfl
noncomputable def tag_Right.f : El (sgTy tag_Right.sg) → Option (El tag_Right.rs.ty) := fun x => match x with
  | a0 =>
  (if a0 ≤ 255 then ((tag_first.f a0).bind fun b0 =>
   (if b0 = true then (some (decide ¬bits BinOp.and IntKind.i64 a0 31 = 31))
   else (some false)))
  else (if a0 ≤ 65535 then ((tag_first.f (Int.fdiv a0 (2 ^ 8))).bind fun b1 =>
    (if b1 = true then (if bits BinOp.and IntKind.i64 (Int.fdiv a0 (2 ^ 8)) 31 = 31 then (if bits BinOp.and IntKind.i64 a0 255 ≥ 1 then (some (decide (bits BinOp.and IntKind.i64 a0 255 ≤ 127)))
      else (some false))
     else (some false))
    else (some false)))
   else (some false)))
noncomputable def tag_Right.c : Con := ⟨151, tag_Right.sg, tag_Right.rs, tag_Right.f⟩
theorem tag_Right.con : ConOk Tryz.prog tag_Right.c := walked (C := tag_Right.C) rfl (by kernel_rfl) (by kernel_rfl) (by kernel_rfl) rfl ⟨tag_first.con, trivial⟩ fun a0 y h => ⟨0, (tag_Right.eq 0 a0).trans h⟩
theorem tag_first256 : ∀ n : Fin 256, tag_first.f ((n.val : Nat) : Int) = some (decide (tagKind n.val ≠ 0)) ∧ (tagKind n.val ≠ 0 → (Go.bits .and .i64 ((n.val : Nat) : Int) 31 = 31 ↔ tagKind n.val = 2)) := by decide +kernel
theorem tag_Right256 : ∀ n : Fin 256, tagKind n.val = 2 → ∀ b : Fin 256, tag_Right.f ((256 * n.val + b.val : Nat) : Int) = some (decide (1 ≤ b.val ∧ b.val ≤ 127)) := by decide +kernel
theorem wbyte (a : UInt8) : IntKind.wrap .i64 (a.toNat : Int) = (a.toNat : Int) := wrap_nat (by have := u8_lt a; omega)
theorem or_bytes (a b : UInt8) : Go.bits .or .i64 (IntKind.wrap .i64 ((IntKind.wrap .i64 (a.toNat : Int)) * 2 ^ 8)) (IntKind.wrap .i64 (b.toNat : Int)) = ((256 * a.toNat + b.toNat : Nat) : Int) := by
  have h1 := u8_lt a
  rw [wbyte, wbyte, show (a.toNat : Int) * 2 ^ 8 = ((a.toNat * 256 : Nat) : Int) by omega, wrap_nat (by omega), or_join _ _ (u8_lt a) (u8_lt b)]
/-! ### tag_Get -/
@[reducible] def tag_Get.sg : List Shp := [.v (.str), .v (.int .i64)]
@[reducible] def tag_Get.rs : Rs := .tup [.v (.int .i64), .v (.int .i64), .v (.int .i64)]
@[reducible] noncomputable def tag_Get.code : Code := Tryz.f128.body.getD .skip
noncomputable def tag_Get.C : Ctx := ⟨tab, [tag_first.c, tag_Right.c], [], ⟨[], []⟩⟩
theorem tag_Get.eq (n : Nat) (a0 : ByteArray) (a1 : Int) : call tag_Get.C Tryz.f128 tag_Get.code tag_Get.sg tag_Get.rs n (a0, a1) =
  (if a1 < 0 then (some ((0, 0, 1)))
  else (if a1 > (↑(ByteArray.size a0) : Int) then (some ((0, 0, 1)))
   else (if a1 = (↑(ByteArray.size a0) : Int) then (some ((0, 0, 2)))
    else ((bget a0 a1).bind fun b0 =>
     ((tag_first.f (IntKind.wrap IntKind.i64 (↑(UInt8.toNat b0) : Int))).bind fun b1 =>
     (if ¬b1 = true then (some ((0, 0, 13)))
     else (if ¬bits BinOp.and IntKind.i64 (IntKind.wrap IntKind.i64 (↑(UInt8.toNat b0) : Int)) 31 = 31 then (some ((IntKind.wrap IntKind.i64 (↑(UInt8.toNat b0) : Int), IntKind.wrap IntKind.i64 (a1 + 1), 0)))
      else (if IntKind.wrap IntKind.i64 (a1 + 1) = (↑(ByteArray.size a0) : Int) then (some ((0, 0, 2)))
       else ((bget a0 (IntKind.wrap IntKind.i64 (a1 + 1))).bind fun b2 =>
        ((tag_Right.f (bits BinOp.or IntKind.i64 (IntKind.wrap IntKind.i64 (IntKind.wrap IntKind.i64 (↑(UInt8.toNat b0) : Int) * 2 ^ 8)) (IntKind.wrap IntKind.i64 (↑(UInt8.toNat b2) : Int)))).bind fun b3 =>
        (if ¬b3 = true then (some ((0, 0, 13)))
        else (some ((bits BinOp.or IntKind.i64 (IntKind.wrap IntKind.i64 (IntKind.wrap IntKind.i64 (↑(UInt8.toNat b0) : Int) * 2 ^ 8)) (IntKind.wrap IntKind.i64 (↑(UInt8.toNat b2) : Int)), IntKind.wrap IntKind.i64 (a1 + 2), 0)))))))))))))) := by kernel_rfl
def tag_Get.f (x : ByteArray × Int) : Option (Int × Int × Int) := if x.1.size ≤ 140737488351232 ∧ 0 ≤ x.2 ∧ x.2 ≤ (x.1.size : Int) then some (tagR x.2.toNat ((bl x.1).drop x.2.toNat)) else none
theorem tag_Get (l : List UInt8) (hl : l.length ≤ 140737488351232) (i : Nat) (hi : i ≤ l.length) : tag_Get.f (sb l, (i : Int)) = some (tagR i (l.drop i)) := by
  unfold tag_Get.f
  rw [if_pos ⟨by rw [size_sb]; exact hl, by omega, by rw [size_sb]; omega⟩, bl_sb, Int.toNat_natCast]
theorem tag_Get.run (l : List UInt8) (hl : l.length ≤ 140737488351232) (i : Nat) (hi : i ≤ l.length) : call tag_Get.C Tryz.f128 tag_Get.code tag_Get.sg tag_Get.rs 0 (sb l, (i : Int)) = some (tagR i (l.drop i)) := by
  have b1 : ¬ (i : Int) < 0 := by omega
  have b2 : ¬ (i : Int) > (l.length : Int) := by omega
  rw [tag_Get.eq, if_neg b1, size_sb, if_neg b2]
  cases hd : l.drop i with
  | nil =>
    have h : (i : Int) = (l.length : Int) := by have := congrArg List.length hd; rw [List.length_drop] at this; simp at this; omega
    rw [if_pos h]; rfl
  | cons a m =>
    have hlen := len_drop hd
    have b3 : ¬ (i : Int) = (l.length : Int) := by omega
    obtain ⟨f1, f2⟩ := tag_first256 ⟨a.toNat, u8_lt a⟩
    have g1 : IntKind.wrap .i64 ((i : Int) + 1) = ((i + 1 : Nat) : Int) := wrap_succ (by omega)
    have g2 : IntKind.wrap .i64 ((i : Int) + 2) = ((i + 2 : Nat) : Int) := by rw [show (i : Int) + 2 = ((i + 2 : Nat) : Int) by omega]; exact wrap_nat (by omega)
    have c1 : ((i + 1 : Nat) : Int) = (l.length : Int) ↔ m = [] := by
      constructor
      · intro h; exact List.eq_nil_of_length_eq_zero (by omega)
      · intro h; rw [h] at hlen; simp at hlen; omega
    have hdrop : ∀ b m', m = b :: m' → l.drop (i + 1) = b :: m' := by intro b m' e; obtain ⟨-, -, h⟩ := drop_cons hd; rw [h, e]
    rw [if_neg b3, bget_drop hd, Option.bind_some, wbyte, f1, Option.bind_some, g1, g2]
    clear f1
    rcases tagKind_cases a.toNat with h0 | h1 | h2
    · rw [tagR_cons, if_pos h0, if_pos (by simp [h0])]
    · have hne : tagKind a.toNat ≠ 0 := by rw [h1]; decide
      have f3 : ¬ Go.bits .and .i64 (a.toNat : Int) 31 = 31 := by intro h; rw [f2 hne, h1] at h; exact absurd h (by decide)
      rw [tagR_cons, if_neg hne, if_pos h1, if_neg (by simp [hne]), if_pos f3]
    · have hne : tagKind a.toNat ≠ 0 := by rw [h2]; decide
      have f3 : Go.bits .and .i64 (a.toNat : Int) 31 = 31 := (f2 hne).2 h2
      have hn1 : tagKind a.toNat ≠ 1 := by rw [h2]; decide
      rw [tagR_cons, if_neg hne, if_neg hn1, if_neg (by simp [hne]), if_neg (not_not_intro f3)]
      clear f3 f2
      cases m with
      | nil => rw [if_pos (c1.2 rfl)]
      | cons b m' =>
        have hd' := hdrop b m' rfl
        have hlen' := len_drop hd'
        have b6 : ¬ ((i + 1 : Nat) : Int) = (l.length : Int) := by omega
        have f4 := tag_Right256 ⟨a.toNat, u8_lt a⟩ h2 ⟨b.toNat, u8_lt b⟩
        have ob := or_bytes a b
        rw [wbyte] at ob
        rw [if_neg b6, bget_drop hd', Option.bind_some, ob, f4, Option.bind_some]
        by_cases hb : 1 ≤ b.toNat ∧ b.toNat ≤ 127
        · rw [if_neg (by simp [hb])]; simp only [hb, and_self, if_true]
        · rw [if_pos (by simp [hb])]; simp only [hb, if_false]
noncomputable def tag_Get.c : Con := ⟨128, tag_Get.sg, tag_Get.rs, tag_Get.f⟩
theorem tag_Get.con : ConOk Tryz.prog tag_Get.c := walked (C := tag_Get.C) rfl (by kernel_rfl) (by kernel_rfl) (by kernel_rfl) rfl ⟨tag_first.con, tag_Right.con, trivial⟩ fun ⟨s, i⟩ y h => by
  obtain ⟨l, rfl⟩ := ex_sb s
  have h : tag_Get.f (sb l, i) = some y := h
  unfold tag_Get.f at h
  split at h
  · rename_i hc
    obtain ⟨h1, h2, h3⟩ := hc
    rw [size_sb] at h1 h3
    obtain ⟨n, rfl⟩ : ∃ n : Nat, i = (n : Int) := ⟨Int.toNat i, (Int.toNat_of_nonneg h2).symm⟩
    rw [bl_sb, Int.toNat_natCast] at h
    exact ⟨0, (tag_Get.run l h1 n (by have h3 : (n : Int) ≤ (l.length : Int) := h3; omega)).trans h⟩
  · cases h
/-! ### ber_Size -/
@[reducible] def ber_Size.sg : List Shp := [.v (.int .i64)]
@[reducible] def ber_Size.rs : Rs := .one (.v (.int .i64))
@[reducible] noncomputable def ber_Size.code : Code := Tryz.f152.body.getD .skip
noncomputable def ber_Size.C : Ctx := ⟨tab, [], [], ⟨[], []⟩⟩
theorem ber_Size.eq (n : Nat) (a0 : Int) : call ber_Size.C Tryz.f152 ber_Size.code ber_Size.sg ber_Size.rs n a0 =
  (if a0 < 0 then (some 0)
  else (if a0 > 65535 then (some 0)
   else (if a0 > 255 then (some 3)
    else (if a0 > 127 then (some 2)
     else (some 1))))) := by kernel_rfl
noncomputable def ber_Size.f : El (sgTy ber_Size.sg) → Option (El ber_Size.rs.ty) := fun x => match x with
  | a0 =>
  (if a0 < 0 then (some 0)
  else (if a0 > 65535 then (some 0)
   else (if a0 > 255 then (some 3)
    else (if a0 > 127 then (some 2)
     else (some 1)))))
noncomputable def ber_Size.c : Con := ⟨152, ber_Size.sg, ber_Size.rs, ber_Size.f⟩
theorem ber_Size.con : ConOk Tryz.prog ber_Size.c := walked (C := ber_Size.C) rfl (by kernel_rfl) (by kernel_rfl) (by kernel_rfl) rfl trivial fun a0 y h => ⟨0, (ber_Size.eq 0 a0).trans h⟩
theorem ber_Size1 (n : Nat) (h : n ≤ 127) : ber_Size.f (n : Int) = some 1 := by
  have b1 : ¬ (n : Int) < 0 := by omega
  have b2 : ¬ (n : Int) > 65535 := by omega
  have b3 : ¬ (n : Int) > 255 := by omega
  have b4 : ¬ (n : Int) > 127 := by omega
  simp only [ber_Size.f]
  rw [if_neg b1, if_neg b2, if_neg b3, if_neg b4]
theorem ber_Size2 (n : Nat) (h1 : 127 < n) (h : n ≤ 255) : ber_Size.f (n : Int) = some 2 := by
  have b1 : ¬ (n : Int) < 0 := by omega
  have b2 : ¬ (n : Int) > 65535 := by omega
  have b3 : ¬ (n : Int) > 255 := by omega
  have b4 : (n : Int) > 127 := by omega
  simp only [ber_Size.f]
  rw [if_neg b1, if_neg b2, if_neg b3, if_pos b4]
theorem ber_Size3 (n : Nat) (h1 : 255 < n) (h : n ≤ 65535) : ber_Size.f (n : Int) = some 3 := by
  have b1 : ¬ (n : Int) < 0 := by omega
  have b2 : ¬ (n : Int) > 65535 := by omega
  have b3 : (n : Int) > 255 := by omega
  simp only [ber_Size.f]
  rw [if_neg b1, if_neg b2, if_pos b3]
/-! ### ber_Get -/
@[reducible] def ber_Get.sg : List Shp := [.v (.str), .v (.int .i64)]
@[reducible] def ber_Get.rs : Rs := .tup [.v (.int .i64), .v (.int .i64), .v (.int .i64)]
@[reducible] noncomputable def ber_Get.code : Code := Tryz.f129.body.getD .skip
noncomputable def ber_Get.C : Ctx := ⟨tab, [ber_Size.c], [], ⟨[(14, [0, 1, 7, 8, 44, 45], 0)], []⟩⟩
noncomputable def ber_Get.l0 (n : Nat) (v0 : ByteArray) (v1 : Int) (v2 : Int) (v3 : Int) (v4 : Int) (v5 : Int) : Option ((Int × (Int × Int))) := run ber_Get.C (finOf ber_Get.C Tryz.f129 ber_Get.rs) n (todoAt 14 ber_Get.code) ⟨[.str v0, .int .i64 v1, .junk, .junk, .junk, .junk, .junk, .int .i64 v2, .int .i64 v3, .junk, .junk, .junk, .junk, .junk, .junk, .junk, .junk, .junk, .junk, .junk, .junk, .junk, .junk, .junk, .junk, .junk, .junk, .junk, .junk, .junk, .junk, .junk, .junk, .junk, .junk, .junk, .junk, .junk, .junk, .junk, .junk, .junk, .junk, .junk, .int .i64 v4, .int .i64 v5, .junk, .junk, .junk, .junk, .junk, .junk, .junk, .junk, .junk, .junk, .junk, .junk, .junk, .junk, .junk, .junk, .junk, .junk, .junk, .junk, .junk], [], []⟩
-- the loop at region 14
theorem ber_Get.l0_eq (n : Nat) (v0 : ByteArray) (v1 : Int) (v2 : Int) (v3 : Int) (v4 : Int) (v5 : Int) : ber_Get.l0 (n + 1) v0 v1 v2 v3 v4 v5 =
  (if v5 < v4 then ((bget v0 (IntKind.wrap IntKind.i64 (v1 + v5))).bind fun b1 =>
   (ber_Get.l0 n v0 v1 (bits BinOp.or IntKind.i64 (IntKind.wrap IntKind.i64 (v2 * 2 ^ 8)) (IntKind.wrap IntKind.i64 (↑(UInt8.toNat b1) : Int))) v3 v4 (IntKind.wrap IntKind.i64 (v5 + 1))))
  else ((ber_Size.f v2).bind fun b2 =>
   (if ¬b2 = IntKind.wrap IntKind.i64 (v3 + 1) then (some ((0, 0, 14)))
   else (some ((v2, IntKind.wrap IntKind.i64 (v1 + v3), 0)))))) := by kernel_rfl
theorem ber_Get.eq (n : Nat) (a0 : ByteArray) (a1 : Int) : call ber_Get.C Tryz.f129 ber_Get.code ber_Get.sg ber_Get.rs n (a0, a1) =
  (if a1 < 0 then (some ((0, 0, 1)))
  else (if a1 > (↑(ByteArray.size a0) : Int) then (some ((0, 0, 1)))
   else (if a1 = (↑(ByteArray.size a0) : Int) then (some ((0, 0, 2)))
    else ((bget a0 a1).bind fun b0 =>
     (if IntKind.wrap IntKind.i64 (↑(UInt8.toNat b0) : Int) > 127 then (if IntKind.wrap IntKind.i64 (↑(UInt8.toNat b0) : Int) = 128 then (some ((0, 0, 14)))
      else (if IntKind.wrap IntKind.i64 (↑(UInt8.toNat b0) : Int) > 130 then (some ((0, 0, 14)))
       else (if IntKind.wrap IntKind.i64 ((↑(ByteArray.size a0) : Int) - IntKind.wrap IntKind.i64 (a1 + 1)) < IntKind.wrap IntKind.i64 (IntKind.wrap IntKind.i64 (↑(UInt8.toNat b0) : Int) - 128) then (some ((0, 0, 2)))
        else (ber_Get.l0 n a0 (IntKind.wrap IntKind.i64 (a1 + 1)) 0 (IntKind.wrap IntKind.i64 (IntKind.wrap IntKind.i64 (↑(UInt8.toNat b0) : Int) - 128)) (IntKind.wrap IntKind.i64 (IntKind.wrap IntKind.i64 (↑(UInt8.toNat b0) : Int) - 128)) 0))))
     else (if IntKind.wrap IntKind.i64 ((↑(ByteArray.size a0) : Int) - IntKind.wrap IntKind.i64 (a1 + 1)) < 0 then (some ((0, 0, 2)))
      else (ber_Get.l0 n a0 (IntKind.wrap IntKind.i64 (a1 + 1)) (IntKind.wrap IntKind.i64 (↑(UInt8.toNat b0) : Int)) 0 0 0))))))) := by kernel_rfl
def ber_Get.f (x : ByteArray × Int) : Option (Int × Int × Int) := if x.1.size ≤ 140737488351232 ∧ 0 ≤ x.2 ∧ x.2 ≤ (x.1.size : Int) then some (berR x.2.toNat ((bl x.1).drop x.2.toNat)) else none
theorem ber_Get (l : List UInt8) (hl : l.length ≤ 140737488351232) (i : Nat) (hi : i ≤ l.length) : ber_Get.f (sb l, (i : Int)) = some (berR i (l.drop i)) := by
  unfold ber_Get.f
  rw [if_pos ⟨by rw [size_sb]; exact hl, by omega, by rw [size_sb]; omega⟩, bl_sb, Int.toNat_natCast]
theorem ber_Get.run (l : List UInt8) (hl : l.length ≤ 140737488351232) (i : Nat) (hi : i ≤ l.length) : call ber_Get.C Tryz.f129 ber_Get.code ber_Get.sg ber_Get.rs 3 (sb l, (i : Int)) = some (berR i (l.drop i)) := by
  have b1 : ¬ (i : Int) < 0 := by omega
  have b2 : ¬ (i : Int) > (l.length : Int) := by omega
  have e28 : (2 : Int) ^ 8 = 256 := by decide
  rw [ber_Get.eq, if_neg b1, size_sb, if_neg b2]
  simp only [wrap_w]
  cases hd : l.drop i with
  | nil =>
    have h : (i : Int) = (l.length : Int) := by have := congrArg List.length hd; rw [List.length_drop] at this; simp at this; omega
    rw [if_pos h]; rfl
  | cons a m =>
    have hlen := len_drop hd
    have ha := u8_lt a
    have b3 : ¬ (i : Int) = (l.length : Int) := by omega
    have b4 : 0 ≤ (i : Int) := by omega
    have b5 : (i : Int) < (l.length : Int) := by omega
    have g1 : wrap64 ((i : Int) + 1) = ((i + 1 : Nat) : Int) := wrap64_succ (by omega)
    have g0 : wrap64 ((l.length : Int) - ((i + 1 : Nat) : Int)) = (m.length : Int) := by rw [show (l.length : Int) - ((i + 1 : Nat) : Int) = ((m.length : Nat) : Int) by omega]; exact wrap64_nat (by omega)
    have hdrop : ∀ b m', m = b :: m' → l.drop (i + 1) = b :: m' := by intro b m' e; obtain ⟨-, -, h⟩ := drop_cons hd; rw [h, e]
    rw [if_neg b3, bget_drop hd, Option.bind_some, wrap_byte, g1, g0, berR]
    by_cases h1 : a.toNat ≤ 127
    · have q1 : ¬ (a.toNat : Int) > 127 := by omega
      have q2 : ¬ (m.length : Int) < 0 := by omega
      have q3 : ¬ (0 : Int) < 0 := by omega
      have q4 : wrap64 (((i + 1 : Nat) : Int) + 0) = ((i + 1 : Nat) : Int) := by rw [Int.add_zero]; exact wrap64_nat (by omega)
      rw [if_pos h1, if_neg q1]
      rw [if_neg q2, ber_Get.l0_eq 2]
      simp only [wrap_w]
      rw [if_neg q3, ber_Size1 _ h1, Option.bind_some, q4, wr1, if_neg (not_not_intro rfl)]
    · have q1 : (a.toNat : Int) > 127 := by omega
      rw [if_neg h1, if_pos q1]
      by_cases h2 : a.toNat = 128 ∨ 130 < a.toNat
      · rw [if_pos h2]
        by_cases q2 : (a.toNat : Int) = 128
        · rw [if_pos q2]
        · have q3 : (a.toNat : Int) > 130 := by omega
          rw [if_neg q2, if_pos q3]
      · have q2 : ¬ (a.toNat : Int) = 128 := by omega
        have q3 : ¬ (a.toNat : Int) > 130 := by omega
        rw [if_neg h2, if_neg q2, if_neg q3]
        have hw : wrap64 ((a.toNat : Int) - 128) = ((a.toNat - 128 : Nat) : Int) := by rw [show (a.toNat : Int) - 128 = ((a.toNat - 128 : Nat) : Int) by omega]; exact wrap64_nat (by omega)
        rw [hw]
        clear hw g0 g1
        by_cases h3 : m.length < a.toNat - 128
        · have q4 : (m.length : Int) < ((a.toNat - 128 : Nat) : Int) := by omega
          rw [if_pos h3, if_pos q4]
        · have q4 : ¬ (m.length : Int) < ((a.toNat - 128 : Nat) : Int) := by omega
          rw [if_neg h3, if_neg q4]
          by_cases h4 : a.toNat = 129
          · rw [if_pos h4, h4]
            rw [h4] at h3
            cases m with
            | nil => simp at h3
            | cons b m' =>
              have hd' := hdrop b m' rfl
              have hlen' := len_drop hd'
              have hb := u8_lt b
              have p0 : wrap64 (((i + 1 : Nat) : Int) + 0) = ((i + 1 : Nat) : Int) := by rw [Int.add_zero]; exact wrap64_nat (by omega)
              have p1 : 0 ≤ ((i + 1 : Nat) : Int) := by omega
              have p2 : ((i + 1 : Nat) : Int) < (l.length : Int) := by omega
              have p3 : wrap64 (((i + 1 : Nat) : Int) + ((129 - 128 : Nat) : Int)) = ((i + 2 : Nat) : Int) := by rw [show ((i + 1 : Nat) : Int) + ((129 - 128 : Nat) : Int) = ((i + 2 : Nat) : Int) by omega]; exact wrap64_nat (by omega)
              rw [ber_Get.l0_eq 2, if_pos (show (0 : Int) < ((129 - 128 : Nat) : Int) by decide)]
              simp only [wrap_w, e28]
              rw [p0, bget_drop hd', Option.bind_some, or_zero, ber_Get.l0_eq 1]
              simp only [wrap_w, e28]
              rw [if_neg (show ¬ wrap64 (0 + 1) < ((129 - 128 : Nat) : Int) by rw [wr1]; decide), p3]
              by_cases h5 : b.toNat ≤ 127
              · rw [ber_Size1 _ h5, Option.bind_some, if_pos (by simp [wrap64])]
                simp [h5]
              · rw [ber_Size2 _ (by omega) (by omega), Option.bind_some, if_neg (by simp [wrap64])]
                simp [h5]
          · have h5 : a.toNat = 130 := by omega
            rw [if_neg h4, h5]
            rw [h5] at h3
            cases m with
            | nil => simp at h3
            | cons b m' =>
              cases m' with
              | nil => simp at h3
              | cons c m'' =>
                have hd' := hdrop b _ rfl
                have hlen' := len_drop hd'
                have hd'' : l.drop (i + 1 + 1) = c :: m'' := by obtain ⟨-, -, h⟩ := drop_cons hd'; exact h
                have hlen'' := len_drop hd''
                have hb := u8_lt b
                have hc := u8_lt c
                have p1 : 0 ≤ ((i + 1 : Nat) : Int) := by omega
                have p2 : ((i + 1 : Nat) : Int) < (l.length : Int) := by omega
                have p5 : 0 ≤ ((i + 1 + 1 : Nat) : Int) := by omega
                have p6 : ((i + 1 + 1 : Nat) : Int) < (l.length : Int) := by omega
                have n1 : i + 1 ≤ 9223372036854775807 := by omega
                have n2 : i + 1 + 1 ≤ 9223372036854775807 := by omega
                have n3 : i + 3 ≤ 9223372036854775807 := by omega
                have e1 : ((i + 1 : Nat) : Int) + 1 = ((i + 1 + 1 : Nat) : Int) := by omega
                have e3 : ((i + 1 : Nat) : Int) + ((130 - 128 : Nat) : Int) = ((i + 3 : Nat) : Int) := by omega
                have p0 : wrap64 (((i + 1 : Nat) : Int) + 0) = ((i + 1 : Nat) : Int) := by rw [Int.add_zero]; exact wrap64_nat n1
                have p4 : wrap64 (((i + 1 : Nat) : Int) + wrap64 (0 + 1)) = ((i + 1 + 1 : Nat) : Int) := by rw [wr1, e1]; exact wrap64_nat n2
                have p3 : wrap64 (((i + 1 : Nat) : Int) + ((130 - 128 : Nat) : Int)) = ((i + 3 : Nat) : Int) := by rw [e3]; exact wrap64_nat n3
                rw [ber_Get.l0_eq 2, if_pos (show (0 : Int) < ((130 - 128 : Nat) : Int) by decide)]
                simp only [wrap_w, e28]
                rw [p0, bget_drop hd', Option.bind_some, or_zero, ber_Get.l0_eq 1]
                simp only [wrap_w, e28]
                rw [if_pos (show wrap64 (0 + 1) < ((130 - 128 : Nat) : Int) by rw [wr1]; decide), p4, bget_drop hd'', Option.bind_some, or_two, ber_Get.l0_eq 0]
                simp only [wrap_w, e28]
                rw [if_neg (show ¬ wrap64 (wrap64 (0 + 1) + 1) < ((130 - 128 : Nat) : Int) by rw [wr1, wr2]; decide), p3]
                clear p0 p4 p3 e1 e3
                by_cases h6 : b.toNat = 0
                · rw [show 256 * b.toNat + c.toNat = c.toNat by omega]
                  by_cases h7 : c.toNat ≤ 127
                  · rw [ber_Size1 _ h7, Option.bind_some, if_pos (by simp [wrap64])]
                    simp [h6]
                  · rw [ber_Size2 _ (by omega) (by omega), Option.bind_some, if_pos (by simp [wrap64])]
                    simp [h6]
                · rw [ber_Size3 _ (by omega) (by omega), Option.bind_some, if_neg (by simp [wrap64])]
                  simp [h6]
noncomputable def ber_Get.c : Con := ⟨129, ber_Get.sg, ber_Get.rs, ber_Get.f⟩
theorem ber_Get.con : ConOk Tryz.prog ber_Get.c := walked (C := ber_Get.C) rfl (by kernel_rfl) (by kernel_rfl) (by kernel_rfl) rfl ⟨ber_Size.con, trivial⟩ fun ⟨s, i⟩ y h => by
  obtain ⟨l, rfl⟩ := ex_sb s
  have h : ber_Get.f (sb l, i) = some y := h
  unfold ber_Get.f at h
  split at h
  · rename_i hc
    obtain ⟨h1, h2, h3⟩ := hc
    rw [size_sb] at h1 h3
    obtain ⟨n, rfl⟩ : ∃ n : Nat, i = (n : Int) := ⟨Int.toNat i, (Int.toNat_of_nonneg h2).symm⟩
    rw [bl_sb, Int.toNat_natCast] at h
    exact ⟨3, (ber_Get.run l h1 n (by have h3 : (n : Int) ≤ (l.length : Int) := h3; omega)).trans h⟩
  · cases h
end Go.Proofs.YtkaihbkfobiejaaGreatDoor.Xe

/- What the program's reader of lists of tags and values answers. -/
namespace Go.Proofs.YtkaihbkfobiejaaGreatDoor.Xe
open Go Go.RowKit Go.Proofs.YtkaihbkfobiejaaGreatDoor.Sp
set_option linter.unusedVariables false
set_option linter.unusedSimpArgs false
set_option maxRecDepth 100000
/-! ### tlv_Get -/
@[reducible] def tlv_Get.sg : List Shp := [.v (.str)]
@[reducible] def tlv_Get.rs : Rs := .tup [.v (.sl (.pair (.int .i64) (.str))), .v (.int .i64), .v (.int .i64)]
@[reducible] noncomputable def tlv_Get.code : Code := Tryz.f91.body.getD .skip
noncomputable def tlv_Get.C : Ctx := ⟨tab, [tag_Get.c, ber_Get.c], [], ⟨[(4, [0, 5, 6, 7], 1)], []⟩⟩
noncomputable def tlv_Get.l0 (n : Nat) (v0 : ByteArray) (v1 : Int) (v2 : List Int) : Option ((List ((Int × ByteArray)) × (Int × Int))) := run tlv_Get.C (finOf tlv_Get.C Tryz.f91 tlv_Get.rs) n (todoAt 4 tlv_Get.code) ⟨[.str v0, .junk, .junk, .junk, .junk, .nilsl, .mp 0, .int .i64 v1, .junk, .junk, .junk, .junk, .junk, .junk, .junk, .junk, .junk, .junk, .junk, .junk, .junk, .junk, .junk, .junk, .junk, .junk, .junk, .junk, .junk, .junk, .junk, .junk, .junk, .junk, .junk, .junk, .junk, .junk, .junk, .junk, .junk, .junk, .junk, .junk, .junk, .junk, .junk, .junk, .junk, .junk, .junk, .junk, .junk, .junk, .junk, .junk, .junk, .junk, .junk, .junk, .junk, .junk, .junk, .junk, .junk, .junk, .junk, .junk, .junk, .junk, .junk, .junk], [[.keys 3 4 (.int .i64) v2]], []⟩
noncomputable def tlv_Get.l1 (n : Nat) (v0 : ByteArray) (v1 : List ((Int × ByteArray))) (v2 : Int) (v3 : List Int) : Option ((List ((Int × ByteArray)) × (Int × Int))) := run tlv_Get.C (finOf tlv_Get.C Tryz.f91 tlv_Get.rs) n (todoAt 4 tlv_Get.code) ⟨[.str v0, .junk, .junk, .junk, .junk, .sl (some 0) (.pair (.int .i64) (.str)) v1, .mp 0, .int .i64 v2, .junk, .junk, .junk, .junk, .junk, .junk, .junk, .junk, .junk, .junk, .junk, .junk, .junk, .junk, .junk, .junk, .junk, .junk, .junk, .junk, .junk, .junk, .junk, .junk, .junk, .junk, .junk, .junk, .junk, .junk, .junk, .junk, .junk, .junk, .junk, .junk, .junk, .junk, .junk, .junk, .junk, .junk, .junk, .junk, .junk, .junk, .junk, .junk, .junk, .junk, .junk, .junk, .junk, .junk, .junk, .junk, .junk, .junk, .junk, .junk, .junk, .junk, .junk, .junk], [[.keys 3 4 (.int .i64) v3]], [true]⟩
-- the loop at region 4
theorem tlv_Get.l0_eq (n : Nat) (v0 : ByteArray) (v1 : Int) (v2 : List Int) : tlv_Get.l0 (n + 1) v0 v1 v2 =
  (if v1 < (↑(ByteArray.size v0) : Int) then ((tag_Get.f (v0, v1)).bind fun b0 =>
   (if ¬Prod.snd (Prod.snd b0) = 0 then (some (([], Prod.snd (Prod.snd b0), v1)))
   else ((ber_Get.f (v0, Prod.fst (Prod.snd b0))).bind fun b1 =>
    (if ¬Prod.snd (Prod.snd b1) = 0 then (some (([], Prod.snd (Prod.snd b1), Prod.fst (Prod.snd b0))))
    else (if IntKind.wrap IntKind.i64 ((↑(ByteArray.size v0) : Int) - Prod.fst (Prod.snd b1)) < Prod.fst b1 then (some (([], 2, (↑(ByteArray.size v0) : Int))))
     else (if -9223372036854775808 ≤ Prod.fst b0 ∧ Prod.fst b0 ≤ 9223372036854775807 then (if Prod.fst b0 ∈ v2 then (some (([], 10, v1)))
       else (if -9223372036854775808 ≤ Prod.fst b0 ∧ Prod.fst b0 ≤ 9223372036854775807 ∧ List.length v2 < 9223372036854775807 then ((ssub v0 (Prod.fst (Prod.snd b1)) (IntKind.wrap IntKind.i64 (Prod.fst (Prod.snd b1) + Prod.fst b1))).bind fun b2 =>
         ((lcat 24 [] [(Prod.fst b0, b2)]).bind fun b3 =>
         (tlv_Get.l1 n v0 b3 (IntKind.wrap IntKind.i64 (Prod.fst (Prod.snd b1) + Prod.fst b1)) (v2 ++ [Prod.fst b0]))))
        else none))
      else none))))))
  else (some (([], 0, 0)))) := by kernel_rfl
-- the loop at region 4
theorem tlv_Get.l1_eq (n : Nat) (v0 : ByteArray) (v1 : List ((Int × ByteArray))) (v2 : Int) (v3 : List Int) : tlv_Get.l1 (n + 1) v0 v1 v2 v3 =
  (if v2 < (↑(ByteArray.size v0) : Int) then ((tag_Get.f (v0, v2)).bind fun b4 =>
   (if ¬Prod.snd (Prod.snd b4) = 0 then (some (([], Prod.snd (Prod.snd b4), v2)))
   else ((ber_Get.f (v0, Prod.fst (Prod.snd b4))).bind fun b5 =>
    (if ¬Prod.snd (Prod.snd b5) = 0 then (some (([], Prod.snd (Prod.snd b5), Prod.fst (Prod.snd b4))))
    else (if IntKind.wrap IntKind.i64 ((↑(ByteArray.size v0) : Int) - Prod.fst (Prod.snd b5)) < Prod.fst b5 then (some (([], 2, (↑(ByteArray.size v0) : Int))))
     else (if -9223372036854775808 ≤ Prod.fst b4 ∧ Prod.fst b4 ≤ 9223372036854775807 then (if Prod.fst b4 ∈ v3 then (some (([], 10, v2)))
       else (if -9223372036854775808 ≤ Prod.fst b4 ∧ Prod.fst b4 ≤ 9223372036854775807 ∧ List.length v3 < 9223372036854775807 then ((ssub v0 (Prod.fst (Prod.snd b5)) (IntKind.wrap IntKind.i64 (Prod.fst (Prod.snd b5) + Prod.fst b5))).bind fun b6 =>
         ((lcat 24 v1 [(Prod.fst b4, b6)]).bind fun b7 =>
         (tlv_Get.l1 n v0 b7 (IntKind.wrap IntKind.i64 (Prod.fst (Prod.snd b5) + Prod.fst b5)) (v3 ++ [Prod.fst b4]))))
        else none))
      else none))))))
  else (some ((v1, 0, 0)))) := by kernel_rfl
theorem tlv_Get.eq (n : Nat) (a0 : ByteArray) : call tlv_Get.C Tryz.f91 tlv_Get.code tlv_Get.sg tlv_Get.rs n a0 =
  (tlv_Get.l0 n a0 0 []) := by kernel_rfl
def tlv_Get.f (s : ByteArray) : Option (List (Int × ByteArray) × Int × Int) := if s.size ≤ 1000000000000 then some (tlvG (s.size + 1) (bl s) 0 []) else none
theorem tlv_Get (l : List UInt8) (hl : l.length ≤ 1000000000000) : tlv_Get.f (sb l) = some (tlvG (l.length + 1) l 0 []) := by
  unfold tlv_Get.f
  rw [if_pos (by rw [size_sb]; exact hl), size_sb, bl_sb]
theorem tlv_Get_l1 (l : List UInt8) (hl : l.length ≤ 1000000000000) : ∀ (k i : Nat) (o : List (Int × ByteArray)), i ≤ l.length → o.length ≤ i → l.length < k + i →
    tlv_Get.l1 k (sb l) o (i : Int) (o.map Prod.fst) = some (tlvG k l i o)
  | 0, i, o, hi, ho, hk => absurd hk (by omega)
  | k + 1, i, o, hi, ho, hk => by
    rw [tlv_Get.l1_eq, size_sb]
    by_cases c : i < l.length
    · rw [if_pos (by omega), tag_Get l (by omega) i hi, Option.bind_some]
      rcases tlvG_step (k := k) (o := o) hl c with ⟨e, he, h1, h2⟩ | ⟨t, n, e, h1, hn, he, h2, h3⟩ | ⟨t, n, z, m, ht, h1, hn, hin, h2, hnm, hm, hz, h3⟩
      · rw [h1, if_pos he, h2]
      · rw [h1, if_neg (by simp)]
        dsimp only
        rw [ber_Get l (by omega) n hn, Option.bind_some, h2, if_pos he, h3]
      · rw [h1, if_neg (by simp)]
        dsimp only
        rw [ber_Get l (by omega) n hn, Option.bind_some, h2, if_neg (by simp), h3]
        dsimp only
        rw [wrap_id (x := (l.length : Int) - (m : Int)) (by omega) (by omega), show IntKind.wrap .i64 ((m : Int) + (z : Int)) = ((m + z : Nat) : Int) by rw [wrap_id (by omega) (by omega)]; omega]
        by_cases c3 : l.length < m + z
        · rw [if_pos (by omega), if_pos c3]
        · rw [if_neg (by omega), if_neg c3, if_pos (by omega)]
          by_cases c4 : t ∈ o.map Prod.fst
          · rw [if_pos c4, if_pos c4]
          · rw [if_neg c4, if_neg c4, if_pos ⟨by omega, by omega, by rw [List.length_map]; omega⟩, ssub_sb _ _ _ (by omega) (by omega), Option.bind_some, lcat_ok _ _ _ (by simp only [List.length_cons, List.length_nil]; omega), Option.bind_some]
            have := tlv_Get_l1 l hl k (m + z) (o ++ [(t, sb ((l.take (m + z)).drop m))]) (by omega) (by rw [List.length_append]; simp only [List.length_cons, List.length_nil]; omega) (by omega)
            rw [List.map_append] at this
            exact this
    · rw [if_neg (by omega), tlvG, if_neg c]
theorem tlv_Get.run (l : List UInt8) (hl : l.length ≤ 1000000000000) : call tlv_Get.C Tryz.f91 tlv_Get.code tlv_Get.sg tlv_Get.rs (l.length + 1) (sb l) = some (tlvG (l.length + 1) l 0 []) := by
  rw [tlv_Get.eq, tlv_Get.l0_eq, size_sb]
  by_cases c : 0 < l.length
  · have t0 := tag_Get l (by omega) 0 (Nat.zero_le _)
    have t0 : tag_Get.f (sb l, 0) = _ := t0
    rw [if_pos (by omega), t0, Option.bind_some]
    rcases tlvG_step (k := l.length) (o := []) hl c with ⟨e, he, h1, h2⟩ | ⟨t, n, e, h1, hn, he, h2, h3⟩ | ⟨t, n, z, m, ht, h1, hn, hin, h2, hnm, hm, hz, h3⟩
    · rw [h1, if_pos he, h2]; rfl
    · rw [h1, if_neg (by simp)]
      dsimp only
      rw [ber_Get l (by omega) n hn, Option.bind_some, h2, if_pos he, h3]
    · rw [h1, if_neg (by simp)]
      dsimp only
      rw [ber_Get l (by omega) n hn, Option.bind_some, h2, if_neg (by simp), h3]
      dsimp only
      rw [wrap_id (x := (l.length : Int) - (m : Int)) (by omega) (by omega), show IntKind.wrap .i64 ((m : Int) + (z : Int)) = ((m + z : Nat) : Int) by rw [wrap_id (by omega) (by omega)]; omega]
      by_cases c3 : l.length < m + z
      · rw [if_pos (by omega), if_pos c3]
      · have e1 : ¬ t ∈ ([] : List Int) := by simp
        have e2 : ¬ t ∈ ([] : List (Int × ByteArray)).map Prod.fst := by simp
        rw [if_neg (by omega), if_neg c3, if_pos (by omega), if_neg e1, if_neg e2, if_pos ⟨by omega, by omega, by simp⟩, ssub_sb _ _ _ (by omega) (by omega), Option.bind_some, lcat_ok _ _ _ (by simp only [List.length_cons, List.length_nil]; omega), Option.bind_some]
        exact tlv_Get_l1 l hl l.length (m + z) [(t, sb ((l.take (m + z)).drop m))] (by omega) (by simp only [List.length_cons, List.length_nil]; omega) (by omega)
  · rw [if_neg (by omega), tlvG, if_neg c]
noncomputable def tlv_Get.c : Con := ⟨91, tlv_Get.sg, tlv_Get.rs, tlv_Get.f⟩
theorem tlv_Get.con : ConOk Tryz.prog tlv_Get.c := walked (C := tlv_Get.C) rfl (by kernel_rfl) (by kernel_rfl) (by kernel_rfl) rfl ⟨tag_Get.con, ber_Get.con, trivial⟩ fun s y h => by
  obtain ⟨l, rfl⟩ := ex_sb s
  have h : tlv_Get.f (sb l) = some y := h
  unfold tlv_Get.f at h
  split at h
  · rename_i hc
    rw [size_sb] at hc
    rw [size_sb, bl_sb] at h
    exact ⟨l.length + 1, (tlv_Get.run l hc).trans h⟩
  · cases h
end Go.Proofs.YtkaihbkfobiejaaGreatDoor.Xe

/- What the program's check of a spec's value answers. -/
namespace Go.Proofs.YtkaihbkfobiejaaGreatDoor.Xe
open Go Go.RowKit Go.Proofs.YtkaihbkfobiejaaGreatDoor.Sp
set_option linter.unusedVariables false
set_option linter.unusedSimpArgs false
set_option maxRecDepth 100000
theorem spec_Check (no c fo mi ma : Int) : spec_Check.f (no, c, fo, mi, ma) = some (specE no c fo mi ma) := rfl
/-! ### spec_Value -/
@[reducible] def spec_Value.sg : List Shp := [.a (.pair (.int .i64) (.pair (.int .i64) (.pair (.int .i64) (.pair (.int .i64) (.int .i64))))), .v (.str)]
@[reducible] def spec_Value.rs : Rs := .one (.v (.int .i64))
@[reducible] noncomputable def spec_Value.code : Code := Tryz.f45.body.getD .skip
noncomputable def spec_Value.C : Ctx := ⟨tab, [spec_Check.c, class_First.c, tlv_Get.c], [], ⟨[], []⟩⟩
theorem spec_Value.eq (n : Nat) (a0 : Int) (a1 : Int) (a2 : Int) (a3 : Int) (a4 : Int) (a5 : ByteArray) : call spec_Value.C Tryz.f45 spec_Value.code spec_Value.sg spec_Value.rs n ((a0, (a1, (a2, (a3, a4)))), a5) =
  ((spec_Check.f (a0, a1, a2, a3, a4)).bind fun b0 =>
  (if ¬b0 = 0 then (some 1)
  else (if (↑(ByteArray.size a5) : Int) < a3 then (some 5)
   else (if (↑(ByteArray.size a5) : Int) > a4 then (some 5)
    else ((class_First.f (a1, a5)).bind fun b1 =>
     (if b1 ≥ 0 then (some 6)
     else (if a1 = 6 then ((tlv_Get.f a5).bind fun b2 =>
       (if ¬Prod.fst (Prod.snd b2) = 0 then (some 13)
       else (some 0)))
      else (some 0)))))))) := by kernel_rfl
noncomputable def spec_Value.f : El (sgTy spec_Value.sg) → Option (El spec_Value.rs.ty) := fun x => match x with
  | ((a0, (a1, (a2, (a3, a4)))), a5) =>
  ((spec_Check.f (a0, a1, a2, a3, a4)).bind fun b0 =>
  (if ¬b0 = 0 then (some 1)
  else (if (↑(ByteArray.size a5) : Int) < a3 then (some 5)
   else (if (↑(ByteArray.size a5) : Int) > a4 then (some 5)
    else ((class_First.f (a1, a5)).bind fun b1 =>
     (if b1 ≥ 0 then (some 6)
     else (if a1 = 6 then ((tlv_Get.f a5).bind fun b2 =>
       (if ¬Prod.fst (Prod.snd b2) = 0 then (some 13)
       else (some 0)))
      else (some 0))))))))
noncomputable def spec_Value.c : Con := ⟨45, spec_Value.sg, spec_Value.rs, spec_Value.f⟩
theorem spec_Value.con : ConOk Tryz.prog spec_Value.c := walked (C := spec_Value.C) rfl (by kernel_rfl) (by kernel_rfl) (by kernel_rfl) rfl ⟨spec_Check.con, class_First.con, tlv_Get.con, trivial⟩ fun ⟨⟨a0, ⟨a1, ⟨a2, ⟨a3, a4⟩⟩⟩⟩, a5⟩ y h => ⟨0, (spec_Value.eq 0 a0 a1 a2 a3 a4 a5).trans h⟩
theorem spec_Value (no c fo mi ma : Int) (l : List UInt8) (hl : l.length ≤ 1000000000000) : spec_Value.f ((no, c, fo, mi, ma), sb l) = some (specV no c fo mi ma l) := by
  have e : (tlvG (l.length + 1) l 0 []).2.1 = tlvErr l := rfl
  have g := first_ge (inC c) l 0
  have k : class_First.f (c, sb l) = some (firstFrom (inC c) 0 l) := by
    unfold class_First.f
    rw [if_pos (by rw [size_sb]; omega)]; rfl
  simp only [spec_Value.f]
  rw [spec_Check, Option.bind_some, specV, size_sb]
  by_cases h1 : specE no c fo mi ma = 0
  · rw [if_neg (not_not_intro h1), if_neg (not_not_intro h1)]
    by_cases h2 : (l.length : Int) < mi
    · rw [if_pos h2, if_pos (.inl h2)]
    rw [if_neg h2]
    by_cases h3 : (l.length : Int) > ma
    · rw [if_pos h3, if_pos (.inr h3)]
    rw [if_neg h3, if_neg (show ¬ ((l.length : Int) < mi ∨ ma < (l.length : Int)) by omega), k, Option.bind_some]
    by_cases h4 : l.all (inC c) = false
    · rw [if_pos (g.2 h4), if_pos h4]
    rw [if_neg (fun e => h4 (g.1 e)), if_neg h4]
    by_cases h5 : c = 6
    · rw [if_pos h5, tlv_Get l hl, Option.bind_some, e]
      by_cases h6 : tlvErr l = 0
      · rw [if_neg (not_not_intro h6), if_neg (fun q => q.2 h6)]
      · rw [if_pos h6, if_pos ⟨h5, h6⟩]
    · rw [if_neg h5, if_neg (fun q => h5 q.1)]
  · rw [if_pos h1, if_pos h1]
end Go.Proofs.YtkaihbkfobiejaaGreatDoor.Xe
