/- What the program's functions on bit maps answer. -/
import Derived.Test.YtkaihbkfobiejaaGreatDoorEga
import Derived.Test.YtkaihbkfobiejaaGreatDoorEhx
namespace Go.Proofs.YtkaihbkfobiejaaGreatDoor.Xe
open Go Go.RowKit Go.Proofs.YtkaihbkfobiejaaGreatDoor.Sp
set_option linter.unusedVariables false
set_option linter.unusedSimpArgs false
set_option maxRecDepth 100000
def t8 (l : List UInt8) : Int × Int × Int × Int × Int × Int × Int × Int :=
  (((l.getD 0 0).toNat : Int), ((l.getD 1 0).toNat : Int), ((l.getD 2 0).toNat : Int), ((l.getD 3 0).toNat : Int), ((l.getD 4 0).toNat : Int), ((l.getD 5 0).toNat : Int), ((l.getD 6 0).toNat : Int), ((l.getD 7 0).toNat : Int))
def l8 (x : Int × Int × Int × Int × Int × Int × Int × Int) : List UInt8 := [u8 x.1.toNat, u8 x.2.1.toNat, u8 x.2.2.1.toNat, u8 x.2.2.2.1.toNat, u8 x.2.2.2.2.1.toNat, u8 x.2.2.2.2.2.1.toNat, u8 x.2.2.2.2.2.2.1.toNat, u8 x.2.2.2.2.2.2.2.toNat]
def d8 (x : Int × Int × Int × Int × Int × Int × Int × Int) : Bool := decide ((0 ≤ x.1 ∧ x.1 < 256) ∧ (0 ≤ x.2.1 ∧ x.2.1 < 256) ∧ (0 ≤ x.2.2.1 ∧ x.2.2.1 < 256) ∧ (0 ≤ x.2.2.2.1 ∧ x.2.2.2.1 < 256) ∧ (0 ≤ x.2.2.2.2.1 ∧ x.2.2.2.2.1 < 256) ∧ (0 ≤ x.2.2.2.2.2.1 ∧ x.2.2.2.2.2.1 < 256) ∧ (0 ≤ x.2.2.2.2.2.2.1 ∧ x.2.2.2.2.2.2.1 < 256) ∧ (0 ≤ x.2.2.2.2.2.2.2 ∧ x.2.2.2.2.2.2.2 < 256))
theorem byte_in (a : UInt8) : 0 ≤ (a.toNat : Int) ∧ (a.toNat : Int) < 256 := by have := u8_lt a; omega
theorem d8_t8 (l : List UInt8) : d8 (t8 l) = true := decide_eq_true ⟨byte_in _, byte_in _, byte_in _, byte_in _, byte_in _, byte_in _, byte_in _, byte_in _⟩
theorem l8_t8 {l : List UInt8} (h : l.length = 8) : l8 (t8 l) = l := by
  obtain ⟨a, b, c, d, e, f, g, i, rfl⟩ := eight h
  simp [l8, t8, u8_of_nat]
theorem t8_l8 {x : Int × Int × Int × Int × Int × Int × Int × Int} (h : d8 x = true) : t8 (l8 x) = x := by
  obtain ⟨a, b, c, d, e, f, g, i⟩ := x
  have := of_decide_eq_true h
  dsimp only at this
  obtain ⟨ha, hb, hc, hd, he, hf, hg, hi⟩ := this
  have k : ∀ n : Int, 0 ≤ n ∧ n < 256 → ((u8 n.toNat).toNat : Int) = n := fun n hn => by rw [u8_toNat _ (by omega)]; omega
  simp only [t8, l8, List.getD_cons_zero, List.getD_cons_succ]
  rw [k a ha, k b hb, k c hc, k d hd, k e he, k f hf, k g hg, k i hi]
theorem t8_zero {l : List UInt8} (h : l.length = 8) : ((t8 l).1 = 0 ∧ (t8 l).2.1 = 0 ∧ (t8 l).2.2.1 = 0 ∧ (t8 l).2.2.2.1 = 0 ∧ (t8 l).2.2.2.2.1 = 0 ∧ (t8 l).2.2.2.2.2.1 = 0 ∧ (t8 l).2.2.2.2.2.2.1 = 0 ∧ (t8 l).2.2.2.2.2.2.2 = 0 ∧ True) ↔ nat8 l = 0 := by
  obtain ⟨a, b, c, d, e, f, g, i, rfl⟩ := eight h
  simp only [t8, nat8, List.getD_cons_zero, List.getD_cons_succ, List.foldl_cons, List.foldl_nil]
  constructor
  · rintro ⟨h1, h2, h3, h4, h5, h6, h7, h8, -⟩; omega
  · intro h
    exact ⟨by omega, by omega, by omega, by omega, by omega, by omega, by omega, by omega, trivial⟩
theorem t8_str {l : List UInt8} (h : l.length = 8) : bytesOf [(t8 l).1, (t8 l).2.1, (t8 l).2.2.1, (t8 l).2.2.2.1, (t8 l).2.2.2.2.1, (t8 l).2.2.2.2.2.1, (t8 l).2.2.2.2.2.2.1, (t8 l).2.2.2.2.2.2.2] = sb l := by
  obtain ⟨a, b, c, d, e, f, g, i, rfl⟩ := eight h
  rw [bytesOf_sb]
  simp [t8, u8_of_nat]
theorem t8_copy (l : List UInt8) : (scopy (sb l) 0 0, scopy (sb l) 1 0, scopy (sb l) 2 0, scopy (sb l) 3 0, scopy (sb l) 4 0, scopy (sb l) 5 0, scopy (sb l) 6 0, scopy (sb l) 7 0) = t8 l := by
  have k : ∀ i, scopy (sb l) i 0 = ((l.getD i 0).toNat : Int) := by
    intro i
    unfold scopy
    rw [size_sb]
    split
    · simp [sb]
    · rename_i h
      rw [List.getD_eq_getElem?_getD, List.getElem?_eq_none (by omega)]; rfl
  rw [k, k, k, k, k, k, k, k]; rfl
/-! ### bitmap_known -/
@[reducible] def bitmap_known.sg : List Shp := [.v (.int .i64)]
@[reducible] def bitmap_known.rs : Rs := .one (.v (.bool))
@[reducible] noncomputable def bitmap_known.code : Code := Tryz.f50.body.getD .skip
noncomputable def bitmap_known.C : Ctx := ⟨tab, [], [], ⟨[], []⟩⟩
theorem bitmap_known.eq (n : Nat) (a0 : Int) : call bitmap_known.C Tryz.f50 bitmap_known.code bitmap_known.sg bitmap_known.rs n a0 =
  (if a0 = 1 then (some true)
  else (some (decide (a0 = 2)))) := by kernel_rfl
noncomputable def bitmap_known.f : El (sgTy bitmap_known.sg) → Option (El bitmap_known.rs.ty) := fun x => match x with
  | a0 =>
  (if a0 = 1 then (some true)
  else (some (decide (a0 = 2))))
noncomputable def bitmap_known.c : Con := ⟨50, bitmap_known.sg, bitmap_known.rs, bitmap_known.f⟩
theorem bitmap_known.con : ConOk Tryz.prog bitmap_known.c := walked (C := bitmap_known.C) rfl (by kernel_rfl) (by kernel_rfl) (by kernel_rfl) rfl trivial fun a0 y h => ⟨0, (bitmap_known.eq 0 a0).trans h⟩
theorem bitmap_known (s : Int) : bitmap_known.f s = some (decide (s = 1 ∨ s = 2)) := by
  simp only [bitmap_known.f]
  by_cases h : s = 1 <;> simp [h]
/-! ### bitmap_bytes -/
@[reducible] def bitmap_bytes.sg : List Shp := [.v (.int .u64)]
@[reducible] def bitmap_bytes.rs : Rs := .one (.a (.pair (.int .u8) (.pair (.int .u8) (.pair (.int .u8) (.pair (.int .u8) (.pair (.int .u8) (.pair (.int .u8) (.pair (.int .u8) (.int .u8)))))))))
@[reducible] noncomputable def bitmap_bytes.code : Code := Tryz.f84.body.getD .skip
noncomputable def bitmap_bytes.C : Ctx := ⟨tab, [], [], ⟨[(3, [0, 2, 3, 5], 2)], []⟩⟩
noncomputable def bitmap_bytes.l0 (n : Nat) (v0 : Int) (v1 : Int) (v2 : Int) (v3 : Int) (v4 : Int) (v5 : Int) (v6 : Int) (v7 : Int) (v8 : Int) (v9 : Int) (v10 : Int) (v11 : Int) (v12 : Int) (v13 : Int) (v14 : Int) (v15 : Int) (v16 : Int) (v17 : Int) : Option ((Int × (Int × (Int × (Int × (Int × (Int × (Int × Int)))))))) := run bitmap_bytes.C (finOf bitmap_bytes.C Tryz.f84 bitmap_bytes.rs) n (todoAt 3 bitmap_bytes.code) ⟨[.int .u64 v0, .junk, .ptr 0 0, .ptr 1 0, .junk, .int .i64 v1, .junk, .junk, .junk, .junk, .junk, .junk, .junk, .junk, .junk, .junk, .junk, .junk], [[.int .u8 v2, .int .u8 v3, .int .u8 v4, .int .u8 v5, .int .u8 v6, .int .u8 v7, .int .u8 v8, .int .u8 v9], [.int .u8 v10, .int .u8 v11, .int .u8 v12, .int .u8 v13, .int .u8 v14, .int .u8 v15, .int .u8 v16, .int .u8 v17]], []⟩
-- the loop at region 3
theorem bitmap_bytes.l0_eq (n : Nat) (v0 : Int) (v1 : Int) (v2 : Int) (v3 : Int) (v4 : Int) (v5 : Int) (v6 : Int) (v7 : Int) (v8 : Int) (v9 : Int) (v10 : Int) (v11 : Int) (v12 : Int) (v13 : Int) (v14 : Int) (v15 : Int) (v16 : Int) (v17 : Int) : bitmap_bytes.l0 (n + 1) v0 v1 v2 v3 v4 v5 v6 v7 v8 v9 v10 v11 v12 v13 v14 v15 v16 v17 =
  (if v1 < 8 then (if IntKind.wrap IntKind.i64 (8 * IntKind.wrap IntKind.i64 (7 - v1)) < 0 then none
   else (if v1 = 0 then (bitmap_bytes.l0 n v0 (IntKind.wrap IntKind.i64 (v1 + 1)) v2 v3 v4 v5 v6 v7 v8 v9 (IntKind.wrap IntKind.u8 (Int.fdiv v0 (2 ^ min (Int.toNat (IntKind.wrap IntKind.i64 (8 * IntKind.wrap IntKind.i64 (7 - v1)))) 64))) v11 v12 v13 v14 v15 v16 v17)
    else (if v1 = (↑1 : Int) then (bitmap_bytes.l0 n v0 (IntKind.wrap IntKind.i64 (v1 + 1)) v2 v3 v4 v5 v6 v7 v8 v9 v10 (IntKind.wrap IntKind.u8 (Int.fdiv v0 (2 ^ min (Int.toNat (IntKind.wrap IntKind.i64 (8 * IntKind.wrap IntKind.i64 (7 - v1)))) 64))) v12 v13 v14 v15 v16 v17)
     else (if v1 = (↑2 : Int) then (bitmap_bytes.l0 n v0 (IntKind.wrap IntKind.i64 (v1 + 1)) v2 v3 v4 v5 v6 v7 v8 v9 v10 v11 (IntKind.wrap IntKind.u8 (Int.fdiv v0 (2 ^ min (Int.toNat (IntKind.wrap IntKind.i64 (8 * IntKind.wrap IntKind.i64 (7 - v1)))) 64))) v13 v14 v15 v16 v17)
      else (if v1 = (↑3 : Int) then (bitmap_bytes.l0 n v0 (IntKind.wrap IntKind.i64 (v1 + 1)) v2 v3 v4 v5 v6 v7 v8 v9 v10 v11 v12 (IntKind.wrap IntKind.u8 (Int.fdiv v0 (2 ^ min (Int.toNat (IntKind.wrap IntKind.i64 (8 * IntKind.wrap IntKind.i64 (7 - v1)))) 64))) v14 v15 v16 v17)
       else (if v1 = (↑4 : Int) then (bitmap_bytes.l0 n v0 (IntKind.wrap IntKind.i64 (v1 + 1)) v2 v3 v4 v5 v6 v7 v8 v9 v10 v11 v12 v13 (IntKind.wrap IntKind.u8 (Int.fdiv v0 (2 ^ min (Int.toNat (IntKind.wrap IntKind.i64 (8 * IntKind.wrap IntKind.i64 (7 - v1)))) 64))) v15 v16 v17)
        else (if v1 = (↑5 : Int) then (bitmap_bytes.l0 n v0 (IntKind.wrap IntKind.i64 (v1 + 1)) v2 v3 v4 v5 v6 v7 v8 v9 v10 v11 v12 v13 v14 (IntKind.wrap IntKind.u8 (Int.fdiv v0 (2 ^ min (Int.toNat (IntKind.wrap IntKind.i64 (8 * IntKind.wrap IntKind.i64 (7 - v1)))) 64))) v16 v17)
         else (if v1 = (↑6 : Int) then (bitmap_bytes.l0 n v0 (IntKind.wrap IntKind.i64 (v1 + 1)) v2 v3 v4 v5 v6 v7 v8 v9 v10 v11 v12 v13 v14 v15 (IntKind.wrap IntKind.u8 (Int.fdiv v0 (2 ^ min (Int.toNat (IntKind.wrap IntKind.i64 (8 * IntKind.wrap IntKind.i64 (7 - v1)))) 64))) v17)
          else (if v1 = (↑7 : Int) then (bitmap_bytes.l0 n v0 (IntKind.wrap IntKind.i64 (v1 + 1)) v2 v3 v4 v5 v6 v7 v8 v9 v10 v11 v12 v13 v14 v15 v16 (IntKind.wrap IntKind.u8 (Int.fdiv v0 (2 ^ min (Int.toNat (IntKind.wrap IntKind.i64 (8 * IntKind.wrap IntKind.i64 (7 - v1)))) 64))))
           else none)))))))))
  else (some ((v10, v11, v12, v13, v14, v15, v16, v17)))) := by kernel_rfl
theorem bitmap_bytes.eq (n : Nat) (a0 : Int) : call bitmap_bytes.C Tryz.f84 bitmap_bytes.code bitmap_bytes.sg bitmap_bytes.rs n a0 =
  (bitmap_bytes.l0 n a0 0 0 0 0 0 0 0 0 0 0 0 0 0 0 0 0 0) := by kernel_rfl
def bitmap_bytes.f (x : Int) : Option (Int × Int × Int × Int × Int × Int × Int × Int) := if 0 ≤ x ∧ x < 18446744073709551616 then some (t8 (be8 x.toNat)) else none
theorem bitmap_bytes (x : Nat) (h : x < 18446744073709551616) : bitmap_bytes.f (x : Int) = some (t8 (be8 x)) := by
  unfold bitmap_bytes.f; rw [if_pos (by omega)]; rfl
theorem bitmap_bytes.run (a : Int) : call bitmap_bytes.C Tryz.f84 bitmap_bytes.code bitmap_bytes.sg bitmap_bytes.rs 9 a = some (IntKind.wrap .u8 (Int.fdiv a (2 ^ 56)), IntKind.wrap .u8 (Int.fdiv a (2 ^ 48)), IntKind.wrap .u8 (Int.fdiv a (2 ^ 40)), IntKind.wrap .u8 (Int.fdiv a (2 ^ 32)), IntKind.wrap .u8 (Int.fdiv a (2 ^ 24)), IntKind.wrap .u8 (Int.fdiv a (2 ^ 16)), IntKind.wrap .u8 (Int.fdiv a (2 ^ 8)), IntKind.wrap .u8 (Int.fdiv a (2 ^ 0))) := by kernel_rfl
theorem wrap_u8' (n : Int) : IntKind.wrap .u8 n = n % 256 := by
  show (if (false && decide (n % 256 ≥ 128)) = true then n % 256 - 256 else n % 256) = _
  simp only [Bool.false_and, Bool.false_eq_true, if_false]
theorem byte_at (x k : Nat) : IntKind.wrap .u8 (Int.fdiv (x : Int) (2 ^ k)) = (((u8 (x / 2 ^ k % 256)).toNat : Nat) : Int) := by
  rw [show ((2 : Int) ^ k) = ((2 ^ k : Nat) : Int) by simp, wrap_u8', Int.fdiv_eq_ediv_of_nonneg _ (Int.natCast_nonneg _), u8_toNat _ (Nat.mod_lt _ (by decide))]; rfl
noncomputable def bitmap_bytes.c : Con := ⟨84, bitmap_bytes.sg, bitmap_bytes.rs, bitmap_bytes.f⟩
theorem bitmap_bytes.con : ConOk Tryz.prog bitmap_bytes.c := walked (C := bitmap_bytes.C) rfl (by kernel_rfl) (by kernel_rfl) (by kernel_rfl) rfl trivial fun x y h => by
  have h : bitmap_bytes.f x = some y := h
  unfold bitmap_bytes.f at h
  split at h
  · rename_i hc
    obtain ⟨n, rfl⟩ := Int.eq_ofNat_of_zero_le hc.1
    refine ⟨9, ?_⟩
    refine (bitmap_bytes.run _).trans (Eq.trans ?_ h)
    refine congrArg some ?_
    rw [byte_at, byte_at, byte_at, byte_at, byte_at, byte_at, byte_at, byte_at]
    simp only [show (2 : Nat) ^ 56 = 72057594037927936 from rfl, show (2 : Nat) ^ 48 = 281474976710656 from rfl, show (2 : Nat) ^ 40 = 1099511627776 from rfl, show (2 : Nat) ^ 32 = 4294967296 from rfl, show (2 : Nat) ^ 24 = 16777216 from rfl, show (2 : Nat) ^ 16 = 65536 from rfl, show (2 : Nat) ^ 8 = 256 from rfl, show (2 : Nat) ^ 0 = 1 from rfl, Nat.div_one]
    rfl
  · cases h
/-! ### bitmap_bits -/
@[reducible] def bitmap_bits.sg : List Shp := [.a (.pair (.int .u8) (.pair (.int .u8) (.pair (.int .u8) (.pair (.int .u8) (.pair (.int .u8) (.pair (.int .u8) (.pair (.int .u8) (.int .u8))))))))]
@[reducible] def bitmap_bits.rs : Rs := .one (.v (.int .u64))
@[reducible] noncomputable def bitmap_bits.code : Code := Tryz.f52.body.getD .skip
noncomputable def bitmap_bits.C : Ctx := ⟨tab, [], [], ⟨[(3, [3, 6, 7], 1)], []⟩⟩
noncomputable def bitmap_bits.l0 (n : Nat) (v0 : Int) (v1 : Int) (v2 : Int) (v3 : Int) (v4 : Int) (v5 : Int) (v6 : Int) (v7 : Int) (v8 : Int) (v9 : Int) (v10 : Int) (v11 : Int) (v12 : Int) (v13 : Int) (v14 : Int) (v15 : Int) (v16 : Int) (v17 : Int) : Option Int := run bitmap_bits.C (finOf bitmap_bits.C Tryz.f52 bitmap_bits.rs) n (todoAt 3 bitmap_bits.code) ⟨[.junk, .junk, .junk, .int .u64 v0, .junk, .junk, .agg [.int .u8 v1, .int .u8 v2, .int .u8 v3, .int .u8 v4, .int .u8 v5, .int .u8 v6, .int .u8 v7, .int .u8 v8], .int .i64 v9, .junk, .junk, .junk, .junk, .junk, .junk, .junk, .junk, .junk], [[.int .u8 v10, .int .u8 v11, .int .u8 v12, .int .u8 v13, .int .u8 v14, .int .u8 v15, .int .u8 v16, .int .u8 v17]], []⟩
-- the loop at region 3
theorem bitmap_bits.l0_eq (n : Nat) (v0 : Int) (v1 : Int) (v2 : Int) (v3 : Int) (v4 : Int) (v5 : Int) (v6 : Int) (v7 : Int) (v8 : Int) (v9 : Int) (v10 : Int) (v11 : Int) (v12 : Int) (v13 : Int) (v14 : Int) (v15 : Int) (v16 : Int) (v17 : Int) : bitmap_bits.l0 (n + 1) v0 v1 v2 v3 v4 v5 v6 v7 v8 v9 v10 v11 v12 v13 v14 v15 v16 v17 =
  (if v9 < 8 then (if v9 = 0 then (bitmap_bits.l0 n (bits BinOp.or IntKind.u64 (IntKind.wrap IntKind.u64 (v0 * 2 ^ 8)) (IntKind.wrap IntKind.u64 v1)) v1 v2 v3 v4 v5 v6 v7 v8 (IntKind.wrap IntKind.i64 (v9 + 1)) v10 v11 v12 v13 v14 v15 v16 v17)
   else (if v9 = (↑1 : Int) then (bitmap_bits.l0 n (bits BinOp.or IntKind.u64 (IntKind.wrap IntKind.u64 (v0 * 2 ^ 8)) (IntKind.wrap IntKind.u64 v2)) v1 v2 v3 v4 v5 v6 v7 v8 (IntKind.wrap IntKind.i64 (v9 + 1)) v10 v11 v12 v13 v14 v15 v16 v17)
    else (if v9 = (↑2 : Int) then (bitmap_bits.l0 n (bits BinOp.or IntKind.u64 (IntKind.wrap IntKind.u64 (v0 * 2 ^ 8)) (IntKind.wrap IntKind.u64 v3)) v1 v2 v3 v4 v5 v6 v7 v8 (IntKind.wrap IntKind.i64 (v9 + 1)) v10 v11 v12 v13 v14 v15 v16 v17)
     else (if v9 = (↑3 : Int) then (bitmap_bits.l0 n (bits BinOp.or IntKind.u64 (IntKind.wrap IntKind.u64 (v0 * 2 ^ 8)) (IntKind.wrap IntKind.u64 v4)) v1 v2 v3 v4 v5 v6 v7 v8 (IntKind.wrap IntKind.i64 (v9 + 1)) v10 v11 v12 v13 v14 v15 v16 v17)
      else (if v9 = (↑4 : Int) then (bitmap_bits.l0 n (bits BinOp.or IntKind.u64 (IntKind.wrap IntKind.u64 (v0 * 2 ^ 8)) (IntKind.wrap IntKind.u64 v5)) v1 v2 v3 v4 v5 v6 v7 v8 (IntKind.wrap IntKind.i64 (v9 + 1)) v10 v11 v12 v13 v14 v15 v16 v17)
       else (if v9 = (↑5 : Int) then (bitmap_bits.l0 n (bits BinOp.or IntKind.u64 (IntKind.wrap IntKind.u64 (v0 * 2 ^ 8)) (IntKind.wrap IntKind.u64 v6)) v1 v2 v3 v4 v5 v6 v7 v8 (IntKind.wrap IntKind.i64 (v9 + 1)) v10 v11 v12 v13 v14 v15 v16 v17)
        else (if v9 = (↑6 : Int) then (bitmap_bits.l0 n (bits BinOp.or IntKind.u64 (IntKind.wrap IntKind.u64 (v0 * 2 ^ 8)) (IntKind.wrap IntKind.u64 v7)) v1 v2 v3 v4 v5 v6 v7 v8 (IntKind.wrap IntKind.i64 (v9 + 1)) v10 v11 v12 v13 v14 v15 v16 v17)
         else (if v9 = (↑7 : Int) then (bitmap_bits.l0 n (bits BinOp.or IntKind.u64 (IntKind.wrap IntKind.u64 (v0 * 2 ^ 8)) (IntKind.wrap IntKind.u64 v8)) v1 v2 v3 v4 v5 v6 v7 v8 (IntKind.wrap IntKind.i64 (v9 + 1)) v10 v11 v12 v13 v14 v15 v16 v17)
          else none))))))))
  else (some v0)) := by kernel_rfl
theorem bitmap_bits.eq (n : Nat) (a0 : Int) (a1 : Int) (a2 : Int) (a3 : Int) (a4 : Int) (a5 : Int) (a6 : Int) (a7 : Int) : call bitmap_bits.C Tryz.f52 bitmap_bits.code bitmap_bits.sg bitmap_bits.rs n (a0, (a1, (a2, (a3, (a4, (a5, (a6, a7))))))) =
  (bitmap_bits.l0 n 0 a0 a1 a2 a3 a4 a5 a6 a7 0 a0 a1 a2 a3 a4 a5 a6 a7) := by kernel_rfl
def bitmap_bits.f (x : Int × Int × Int × Int × Int × Int × Int × Int) : Option Int := if d8 x = true then some ((nat8 (l8 x) : Nat) : Int) else none
theorem bitmap_bits (l : List UInt8) (h : l.length = 8) : bitmap_bits.f (t8 l) = some ((nat8 l : Nat) : Int) := by
  unfold bitmap_bits.f; rw [if_pos (d8_t8 l), l8_t8 h]
def orS (p a : Int) : Int := Go.bits BinOp.or IntKind.u64 (IntKind.wrap IntKind.u64 (p * 2 ^ 8)) (IntKind.wrap IntKind.u64 a)
theorem bitmap_bits.run (a b c d e f g i : Int) : call bitmap_bits.C Tryz.f52 bitmap_bits.code bitmap_bits.sg bitmap_bits.rs 9 (a, b, c, d, e, f, g, i) = some (orS (orS (orS (orS (orS (orS (orS (orS 0 a) b) c) d) e) f) g) i) := by kernel_rfl
theorem orS_nat (p : Nat) (a : UInt8) (h : p < 72057594037927936) : orS (p : Int) (a.toNat : Int) = ((256 * p + a.toNat : Nat) : Int) := by
  have := u8_lt a
  unfold orS
  have e1 : IntKind.wrap .u64 ((p : Int) * 2 ^ 8) = ((256 * p : Nat) : Int) := by rw [IntKind.wrap_u64]; omega
  have e2 : IntKind.wrap .u64 (a.toNat : Int) = ((a.toNat : Nat) : Int) := by rw [IntKind.wrap_u64]; omega
  rw [e1, e2, bits_or_u64_nat _ _ (by omega) (by omega)]
  have := Nat.two_pow_add_eq_or_of_lt (i := 8) (b := a.toNat) (by omega) p
  rw [show (2 : Nat) ^ 8 = 256 from rfl] at this
  rw [this]
noncomputable def bitmap_bits.c : Con := ⟨52, bitmap_bits.sg, bitmap_bits.rs, bitmap_bits.f⟩
theorem bitmap_bits.con : ConOk Tryz.prog bitmap_bits.c := walked (C := bitmap_bits.C) rfl (by kernel_rfl) (by kernel_rfl) (by kernel_rfl) rfl trivial fun x y h => by
  have h : bitmap_bits.f x = some y := h
  unfold bitmap_bits.f at h
  split at h
  · rename_i hc
    refine ⟨9, ?_⟩
    rw [← h, ← t8_l8 hc, l8_t8 (by rfl)]
    obtain ⟨a, b, c, d, e, f, g, i, hl⟩ := eight (l := l8 x) rfl
    rw [hl]
    have := u8_lt a; have := u8_lt b; have := u8_lt c; have := u8_lt d; have := u8_lt e; have := u8_lt f; have := u8_lt g
    refine (bitmap_bits.run _ _ _ _ _ _ _ _).trans ?_
    simp only [List.getD_cons_zero, List.getD_cons_succ, nat8, List.foldl_cons, List.foldl_nil]
    rw [show (0 : Int) = ((0 : Nat) : Int) from rfl, orS_nat _ _ (by omega), orS_nat _ _ (by omega), orS_nat _ _ (by omega), orS_nat _ _ (by omega), orS_nat _ _ (by omega), orS_nat _ _ (by omega), orS_nat _ _ (by omega), orS_nat _ _ (by omega)]
  · cases h
/-! ### bitmap_take -/
@[reducible] def bitmap_take.sg : List Shp := [.v (.int .i64), .v (.str), .v (.int .i64)]
@[reducible] def bitmap_take.rs : Rs := .tup [.a (.pair (.int .u8) (.pair (.int .u8) (.pair (.int .u8) (.pair (.int .u8) (.pair (.int .u8) (.pair (.int .u8) (.pair (.int .u8) (.int .u8)))))))), .v (.int .i64), .v (.int .i64)]
@[reducible] noncomputable def bitmap_take.code : Code := Tryz.f51.body.getD .skip
noncomputable def bitmap_take.C : Ctx := ⟨tab, [hexa_Get.c], [], ⟨[], []⟩⟩
theorem bitmap_take.eq (n : Nat) (a0 : Int) (a1 : ByteArray) (a2 : Int) : call bitmap_take.C Tryz.f51 bitmap_take.code bitmap_take.sg bitmap_take.rs n (a0, (a1, a2)) =
  (if a0 = 1 then (if IntKind.wrap IntKind.i64 ((↑(ByteArray.size a1) : Int) - a2) < 16 then (some (((0, 0, 0, 0, 0, 0, 0, 0), 0, 2)))
   else ((ssub a1 a2 (IntKind.wrap IntKind.i64 (a2 + 16))).bind fun b0 =>
    (if a0 = 1 then ((hexa_Get.f b0).bind fun b1 =>
     (if ¬Prod.snd (Prod.snd b1) = true then (some (((0, 0, 0, 0, 0, 0, 0, 0), 0, 3)))
     else (some (((scopy (Prod.fst b1) 0 0, scopy (Prod.fst b1) 1 0, scopy (Prod.fst b1) 2 0, scopy (Prod.fst b1) 3 0, scopy (Prod.fst b1) 4 0, scopy (Prod.fst b1) 5 0, scopy (Prod.fst b1) 6 0, scopy (Prod.fst b1) 7 0), IntKind.wrap IntKind.i64 (a2 + 16), 0)))))
    else (some (((scopy b0 0 0, scopy b0 1 0, scopy b0 2 0, scopy b0 3 0, scopy b0 4 0, scopy b0 5 0, scopy b0 6 0, scopy b0 7 0), IntKind.wrap IntKind.i64 (a2 + 16), 0))))))
  else (if IntKind.wrap IntKind.i64 ((↑(ByteArray.size a1) : Int) - a2) < 8 then (some (((0, 0, 0, 0, 0, 0, 0, 0), 0, 2)))
   else ((ssub a1 a2 (IntKind.wrap IntKind.i64 (a2 + 8))).bind fun b2 =>
    (if a0 = 1 then ((hexa_Get.f b2).bind fun b3 =>
     (if ¬Prod.snd (Prod.snd b3) = true then (some (((0, 0, 0, 0, 0, 0, 0, 0), 0, 3)))
     else (some (((scopy (Prod.fst b3) 0 0, scopy (Prod.fst b3) 1 0, scopy (Prod.fst b3) 2 0, scopy (Prod.fst b3) 3 0, scopy (Prod.fst b3) 4 0, scopy (Prod.fst b3) 5 0, scopy (Prod.fst b3) 6 0, scopy (Prod.fst b3) 7 0), IntKind.wrap IntKind.i64 (a2 + 8), 0)))))
    else (some (((scopy b2 0 0, scopy b2 1 0, scopy b2 2 0, scopy b2 3 0, scopy b2 4 0, scopy b2 5 0, scopy b2 6 0, scopy b2 7 0), IntKind.wrap IntKind.i64 (a2 + 8), 0))))))) := by kernel_rfl
noncomputable def bitmap_take.f : El (sgTy bitmap_take.sg) → Option (El bitmap_take.rs.ty) := fun x => match x with
  | (a0, (a1, a2)) =>
  (if a0 = 1 then (if IntKind.wrap IntKind.i64 ((↑(ByteArray.size a1) : Int) - a2) < 16 then (some (((0, 0, 0, 0, 0, 0, 0, 0), 0, 2)))
   else ((ssub a1 a2 (IntKind.wrap IntKind.i64 (a2 + 16))).bind fun b0 =>
    (if a0 = 1 then ((hexa_Get.f b0).bind fun b1 =>
     (if ¬Prod.snd (Prod.snd b1) = true then (some (((0, 0, 0, 0, 0, 0, 0, 0), 0, 3)))
     else (some (((scopy (Prod.fst b1) 0 0, scopy (Prod.fst b1) 1 0, scopy (Prod.fst b1) 2 0, scopy (Prod.fst b1) 3 0, scopy (Prod.fst b1) 4 0, scopy (Prod.fst b1) 5 0, scopy (Prod.fst b1) 6 0, scopy (Prod.fst b1) 7 0), IntKind.wrap IntKind.i64 (a2 + 16), 0)))))
    else (some (((scopy b0 0 0, scopy b0 1 0, scopy b0 2 0, scopy b0 3 0, scopy b0 4 0, scopy b0 5 0, scopy b0 6 0, scopy b0 7 0), IntKind.wrap IntKind.i64 (a2 + 16), 0))))))
  else (if IntKind.wrap IntKind.i64 ((↑(ByteArray.size a1) : Int) - a2) < 8 then (some (((0, 0, 0, 0, 0, 0, 0, 0), 0, 2)))
   else ((ssub a1 a2 (IntKind.wrap IntKind.i64 (a2 + 8))).bind fun b2 =>
    (if a0 = 1 then ((hexa_Get.f b2).bind fun b3 =>
     (if ¬Prod.snd (Prod.snd b3) = true then (some (((0, 0, 0, 0, 0, 0, 0, 0), 0, 3)))
     else (some (((scopy (Prod.fst b3) 0 0, scopy (Prod.fst b3) 1 0, scopy (Prod.fst b3) 2 0, scopy (Prod.fst b3) 3 0, scopy (Prod.fst b3) 4 0, scopy (Prod.fst b3) 5 0, scopy (Prod.fst b3) 6 0, scopy (Prod.fst b3) 7 0), IntKind.wrap IntKind.i64 (a2 + 8), 0)))))
    else (some (((scopy b2 0 0, scopy b2 1 0, scopy b2 2 0, scopy b2 3 0, scopy b2 4 0, scopy b2 5 0, scopy b2 6 0, scopy b2 7 0), IntKind.wrap IntKind.i64 (a2 + 8), 0)))))))
noncomputable def bitmap_take.c : Con := ⟨51, bitmap_take.sg, bitmap_take.rs, bitmap_take.f⟩
theorem bitmap_take.con : ConOk Tryz.prog bitmap_take.c := walked (C := bitmap_take.C) rfl (by kernel_rfl) (by kernel_rfl) (by kernel_rfl) rfl ⟨hexa_Get.con, trivial⟩ fun ⟨a0, ⟨a1, a2⟩⟩ y h => ⟨0, (bitmap_take.eq 0 a0 a1 a2).trans h⟩
theorem bitmap_take (s : Int) (l : List UInt8) (hl : l.length ≤ 70368744177664) (i : Nat) (hi : i ≤ l.length) : bitmap_take.f (s, (sb l, (i : Int))) = some (t8 (bitTake s l i).1, (((bitTake s l i).2.1 : Nat) : Int), (bitTake s l i).2.2) := by
  simp only [bitmap_take.f, bitTake, size_sb]
  rw [wrap_id (x := (l.length : Int) - (i : Int)) (by omega) (by omega)]
  have w16 : IntKind.wrap .i64 ((i : Int) + 16) = ((i + 16 : Nat) : Int) := by rw [wrap_id (by omega) (by omega)]; omega
  have w8 : IntKind.wrap .i64 ((i : Int) + 8) = ((i + 8 : Nat) : Int) := by rw [wrap_id (by omega) (by omega)]; omega
  rw [w16, w8]
  by_cases h1 : s = 1
  · simp only [if_pos h1]
    by_cases h2 : l.length < i + 16
    · rw [if_pos (by omega), if_pos h2]; rfl
    · rw [if_neg (by omega), if_neg h2, ssub_sb _ _ _ (by omega) (by omega), Option.bind_some, List.drop_take, show i + 16 - i = 16 by omega, hexa_Get _ (by rw [List.length_take]; omega), Option.bind_some]
      by_cases h3 : (hexGet ((l.drop i).take 16)).2.2 = true
      · rw [if_neg (by simp [h3]), if_pos h3, t8_copy]
      · rw [if_pos (by simpa using h3), if_neg h3]; rfl
  · simp only [if_neg h1]
    by_cases h2 : l.length < i + 8
    · rw [if_pos (by omega), if_pos h2]; rfl
    · rw [if_neg (by omega), if_neg h2, ssub_sb _ _ _ (by omega) (by omega), Option.bind_some, List.drop_take, show i + 8 - i = 8 by omega, t8_copy]
/-! ### bitmap_Put -/
@[reducible] def bitmap_Put.sg : List Shp := [.v (.int .i64), .a (.pair (.int .u64) (.int .u64))]
@[reducible] def bitmap_Put.rs : Rs := .tup [.v (.str), .v (.int .i64)]
@[reducible] noncomputable def bitmap_Put.code : Code := Tryz.f39.body.getD .skip
noncomputable def bitmap_Put.C : Ctx := ⟨tab, [hexa_Put.c, bitmap_known.c, fields_Set_Has.c, fields_Set_Halves.c, bitmap_bytes.c], [], ⟨[], []⟩⟩
theorem bitmap_Put.eq (n : Nat) (a0 : Int) (a1 : Int) (a2 : Int) : call bitmap_Put.C Tryz.f39 bitmap_Put.code bitmap_Put.sg bitmap_Put.rs n (a0, (a1, a2)) =
  ((bitmap_known.f a0).bind fun b0 =>
  (if ¬b0 = true then (some ((ByteArray.mk #[], 1)))
  else ((fields_Set_Has.f ((a1, a2), 1)).bind fun b1 =>
   (if b1 = true then (some ((ByteArray.mk #[], 1)))
   else ((fields_Set_Halves.f (a1, a2)).bind fun b2 =>
    ((bitmap_bytes.f (Prod.snd b2)).bind fun b3 =>
    (if ¬(Prod.fst b3 = 0 ∧ Prod.fst (Prod.snd b3) = 0 ∧ Prod.fst (Prod.snd (Prod.snd b3)) = 0 ∧ Prod.fst (Prod.snd (Prod.snd (Prod.snd b3))) = 0 ∧ Prod.fst (Prod.snd (Prod.snd (Prod.snd (Prod.snd b3)))) = 0 ∧ Prod.fst (Prod.snd (Prod.snd (Prod.snd (Prod.snd (Prod.snd b3))))) = 0 ∧ Prod.fst (Prod.snd (Prod.snd (Prod.snd (Prod.snd (Prod.snd (Prod.snd b3)))))) = 0 ∧ Prod.snd (Prod.snd (Prod.snd (Prod.snd (Prod.snd (Prod.snd (Prod.snd b3)))))) = 0 ∧ True) then ((bitmap_bytes.f (bits BinOp.or IntKind.u64 (Prod.fst b2) 9223372036854775808)).bind fun b4 =>
     ((scat (bytesOf [Prod.fst b4, Prod.fst (Prod.snd b4), Prod.fst (Prod.snd (Prod.snd b4)), Prod.fst (Prod.snd (Prod.snd (Prod.snd b4))), Prod.fst (Prod.snd (Prod.snd (Prod.snd (Prod.snd b4)))), Prod.fst (Prod.snd (Prod.snd (Prod.snd (Prod.snd (Prod.snd b4))))), Prod.fst (Prod.snd (Prod.snd (Prod.snd (Prod.snd (Prod.snd (Prod.snd b4)))))), Prod.snd (Prod.snd (Prod.snd (Prod.snd (Prod.snd (Prod.snd (Prod.snd b4))))))]) (bytesOf [Prod.fst b3, Prod.fst (Prod.snd b3), Prod.fst (Prod.snd (Prod.snd b3)), Prod.fst (Prod.snd (Prod.snd (Prod.snd b3))), Prod.fst (Prod.snd (Prod.snd (Prod.snd (Prod.snd b3)))), Prod.fst (Prod.snd (Prod.snd (Prod.snd (Prod.snd (Prod.snd b3))))), Prod.fst (Prod.snd (Prod.snd (Prod.snd (Prod.snd (Prod.snd (Prod.snd b3)))))), Prod.snd (Prod.snd (Prod.snd (Prod.snd (Prod.snd (Prod.snd (Prod.snd b3))))))])).bind fun b5 =>
     (if a0 = 1 then ((hexa_Put.f b5).bind fun b6 =>
      (some ((b6, 0))))
     else (some ((b5, 0))))))
    else ((bitmap_bytes.f (Prod.fst b2)).bind fun b7 =>
     ((scat (bytesOf [Prod.fst b7, Prod.fst (Prod.snd b7), Prod.fst (Prod.snd (Prod.snd b7)), Prod.fst (Prod.snd (Prod.snd (Prod.snd b7))), Prod.fst (Prod.snd (Prod.snd (Prod.snd (Prod.snd b7)))), Prod.fst (Prod.snd (Prod.snd (Prod.snd (Prod.snd (Prod.snd b7))))), Prod.fst (Prod.snd (Prod.snd (Prod.snd (Prod.snd (Prod.snd (Prod.snd b7)))))), Prod.snd (Prod.snd (Prod.snd (Prod.snd (Prod.snd (Prod.snd (Prod.snd b7))))))]) (ByteArray.mk #[])).bind fun b8 =>
     (if a0 = 1 then ((hexa_Put.f b8).bind fun b9 =>
      (some ((b9, 0))))
     else (some ((b8, 0))))))))))))) := by kernel_rfl
noncomputable def bitmap_Put.f : El (sgTy bitmap_Put.sg) → Option (El bitmap_Put.rs.ty) := fun x => match x with
  | (a0, (a1, a2)) =>
  ((bitmap_known.f a0).bind fun b0 =>
  (if ¬b0 = true then (some ((ByteArray.mk #[], 1)))
  else ((fields_Set_Has.f ((a1, a2), 1)).bind fun b1 =>
   (if b1 = true then (some ((ByteArray.mk #[], 1)))
   else ((fields_Set_Halves.f (a1, a2)).bind fun b2 =>
    ((bitmap_bytes.f (Prod.snd b2)).bind fun b3 =>
    (if ¬(Prod.fst b3 = 0 ∧ Prod.fst (Prod.snd b3) = 0 ∧ Prod.fst (Prod.snd (Prod.snd b3)) = 0 ∧ Prod.fst (Prod.snd (Prod.snd (Prod.snd b3))) = 0 ∧ Prod.fst (Prod.snd (Prod.snd (Prod.snd (Prod.snd b3)))) = 0 ∧ Prod.fst (Prod.snd (Prod.snd (Prod.snd (Prod.snd (Prod.snd b3))))) = 0 ∧ Prod.fst (Prod.snd (Prod.snd (Prod.snd (Prod.snd (Prod.snd (Prod.snd b3)))))) = 0 ∧ Prod.snd (Prod.snd (Prod.snd (Prod.snd (Prod.snd (Prod.snd (Prod.snd b3)))))) = 0 ∧ True) then ((bitmap_bytes.f (bits BinOp.or IntKind.u64 (Prod.fst b2) 9223372036854775808)).bind fun b4 =>
     ((scat (bytesOf [Prod.fst b4, Prod.fst (Prod.snd b4), Prod.fst (Prod.snd (Prod.snd b4)), Prod.fst (Prod.snd (Prod.snd (Prod.snd b4))), Prod.fst (Prod.snd (Prod.snd (Prod.snd (Prod.snd b4)))), Prod.fst (Prod.snd (Prod.snd (Prod.snd (Prod.snd (Prod.snd b4))))), Prod.fst (Prod.snd (Prod.snd (Prod.snd (Prod.snd (Prod.snd (Prod.snd b4)))))), Prod.snd (Prod.snd (Prod.snd (Prod.snd (Prod.snd (Prod.snd (Prod.snd b4))))))]) (bytesOf [Prod.fst b3, Prod.fst (Prod.snd b3), Prod.fst (Prod.snd (Prod.snd b3)), Prod.fst (Prod.snd (Prod.snd (Prod.snd b3))), Prod.fst (Prod.snd (Prod.snd (Prod.snd (Prod.snd b3)))), Prod.fst (Prod.snd (Prod.snd (Prod.snd (Prod.snd (Prod.snd b3))))), Prod.fst (Prod.snd (Prod.snd (Prod.snd (Prod.snd (Prod.snd (Prod.snd b3)))))), Prod.snd (Prod.snd (Prod.snd (Prod.snd (Prod.snd (Prod.snd (Prod.snd b3))))))])).bind fun b5 =>
     (if a0 = 1 then ((hexa_Put.f b5).bind fun b6 =>
      (some ((b6, 0))))
     else (some ((b5, 0))))))
    else ((bitmap_bytes.f (Prod.fst b2)).bind fun b7 =>
     ((scat (bytesOf [Prod.fst b7, Prod.fst (Prod.snd b7), Prod.fst (Prod.snd (Prod.snd b7)), Prod.fst (Prod.snd (Prod.snd (Prod.snd b7))), Prod.fst (Prod.snd (Prod.snd (Prod.snd (Prod.snd b7)))), Prod.fst (Prod.snd (Prod.snd (Prod.snd (Prod.snd (Prod.snd b7))))), Prod.fst (Prod.snd (Prod.snd (Prod.snd (Prod.snd (Prod.snd (Prod.snd b7)))))), Prod.snd (Prod.snd (Prod.snd (Prod.snd (Prod.snd (Prod.snd (Prod.snd b7))))))]) (ByteArray.mk #[])).bind fun b8 =>
     (if a0 = 1 then ((hexa_Put.f b8).bind fun b9 =>
      (some ((b9, 0))))
     else (some ((b8, 0)))))))))))))
noncomputable def bitmap_Put.c : Con := ⟨39, bitmap_Put.sg, bitmap_Put.rs, bitmap_Put.f⟩
theorem bitmap_Put.con : ConOk Tryz.prog bitmap_Put.c := walked (C := bitmap_Put.C) rfl (by kernel_rfl) (by kernel_rfl) (by kernel_rfl) rfl ⟨hexa_Put.con, bitmap_known.con, fields_Set_Has.con, fields_Set_Halves.con, bitmap_bytes.con, trivial⟩ fun ⟨a0, ⟨a1, a2⟩⟩ y h => ⟨0, (bitmap_Put.eq 0 a0 a1 a2).trans h⟩
theorem fhas_one (h l : Nat) (hh : h < 18446744073709551616) : fhas h l 1 = decide (9223372036854775808 ≤ h) := by
  unfold fhas
  rw [if_neg (by omega), if_pos (by omega)]
  exact top_iff hh
theorem bitmap_Put (s : Int) (h l : Nat) (hh : h < 18446744073709551616) (hl : l < 18446744073709551616) : bitmap_Put.f (s, ((h : Int), (l : Int))) = some (sb (bitPut s h l).1, (bitPut s h l).2) := by
  simp only [bitmap_Put.f]
  rw [bitmap_known, Option.bind_some, bitPut]
  by_cases h1 : s = 1 ∨ s = 2
  · rw [if_neg (by simp [h1]), fields_Set_Has h l hh hl, Option.bind_some, fhas_one h l hh]
    by_cases h2 : 9223372036854775808 ≤ h
    · rw [if_pos (by simpa using h2), if_pos (.inr h2)]; rfl
    · rw [if_neg (by simpa using h2), if_neg (show ¬ (¬ (s = 1 ∨ s = 2) ∨ 9223372036854775808 ≤ h) from fun e => e.elim (fun e => e h1) h2), fields_Set_Halves, Option.bind_some]
      dsimp only
      rw [bitmap_bytes l hl, Option.bind_some, bitRaw]
      have hz := t8_zero (be8_length l)
      rw [nat8_be8 hl] at hz
      by_cases h3 : l = 0
      · rw [if_neg (by rw [hz]; exact fun e => e h3), bitmap_bytes h hh, Option.bind_some, t8_str (be8_length h), show (ByteArray.mk #[]) = sb [] from rfl, scat_sb _ _ (by rw [be8_length]; simp), Option.bind_some, List.append_nil, if_pos h3, hexa_Put _ (by rw [be8_length]; omega)]
        by_cases h4 : s = 1
        · rw [if_pos h4, if_pos h4]; rfl
        · rw [if_neg h4, if_neg h4]
      · have hor : Go.bits .or .u64 (h : Int) 9223372036854775808 = ((9223372036854775808 + h : Nat) : Int) := by
          have := bits_or_u64_nat h 9223372036854775808 hh (by decide)
          rw [or_top (by omega)] at this; exact this
        rw [if_pos (by rw [hz]; exact h3), hor, bitmap_bytes _ (by omega), Option.bind_some, t8_str (be8_length _), t8_str (be8_length l), scat_sb _ _ (by rw [be8_length, be8_length]; omega), Option.bind_some, if_neg h3, hexa_Put _ (by rw [List.length_append, be8_length, be8_length]; omega)]
        by_cases h4 : s = 1
        · rw [if_pos h4, if_pos h4]; rfl
        · rw [if_neg h4, if_neg h4]
  · rw [if_pos (by simp [h1]), if_pos (.inl h1)]; rfl
/-! ### bitmap_Get -/
@[reducible] def bitmap_Get.sg : List Shp := [.v (.int .i64), .v (.str), .v (.int .i64)]
@[reducible] def bitmap_Get.rs : Rs := .tup [.a (.pair (.int .u64) (.int .u64)), .v (.int .i64), .v (.int .i64)]
@[reducible] noncomputable def bitmap_Get.code : Code := Tryz.f16.body.getD .skip
noncomputable def bitmap_Get.C : Ctx := ⟨tab, [bitmap_known.c, bitmap_take.c, bitmap_bits.c, fields_Bits.c], [], ⟨[], []⟩⟩
theorem bitmap_Get.eq (n : Nat) (a0 : Int) (a1 : ByteArray) (a2 : Int) : call bitmap_Get.C Tryz.f16 bitmap_Get.code bitmap_Get.sg bitmap_Get.rs n (a0, (a1, a2)) =
  ((bitmap_known.f a0).bind fun b0 =>
  (if ¬b0 = true then (some (((0, 0), 0, 1)))
  else (if a2 < 0 then (some (((0, 0), 0, 1)))
   else (if a2 > (↑(ByteArray.size a1) : Int) then (some (((0, 0), 0, 1)))
    else ((bitmap_take.f (a0, a1, a2)).bind fun b1 =>
     (if ¬Prod.snd (Prod.snd b1) = 0 then (some (((0, 0), 0, Prod.snd (Prod.snd b1))))
     else ((bitmap_bits.f (Prod.fst b1)).bind fun b2 =>
      (if bits BinOp.and IntKind.u64 b2 9223372036854775808 = 0 then ((fields_Bits.f (b2, 0)).bind fun b3 =>
       (some ((b3, Prod.fst (Prod.snd b1), 0))))
      else ((bitmap_take.f (a0, a1, Prod.fst (Prod.snd b1))).bind fun b4 =>
       (if ¬Prod.snd (Prod.snd b4) = 0 then (some (((0, 0), 0, Prod.snd (Prod.snd b4))))
       else (if Prod.fst (Prod.fst b4) = 0 ∧ Prod.fst (Prod.snd (Prod.fst b4)) = 0 ∧ Prod.fst (Prod.snd (Prod.snd (Prod.fst b4))) = 0 ∧ Prod.fst (Prod.snd (Prod.snd (Prod.snd (Prod.fst b4)))) = 0 ∧ Prod.fst (Prod.snd (Prod.snd (Prod.snd (Prod.snd (Prod.fst b4))))) = 0 ∧ Prod.fst (Prod.snd (Prod.snd (Prod.snd (Prod.snd (Prod.snd (Prod.fst b4)))))) = 0 ∧ Prod.fst (Prod.snd (Prod.snd (Prod.snd (Prod.snd (Prod.snd (Prod.snd (Prod.fst b4))))))) = 0 ∧ Prod.snd (Prod.snd (Prod.snd (Prod.snd (Prod.snd (Prod.snd (Prod.snd (Prod.fst b4))))))) = 0 ∧ True then (some (((0, 0), 0, 8)))
        else ((bitmap_bits.f (Prod.fst b4)).bind fun b5 =>
         ((fields_Bits.f (bits BinOp.andNot IntKind.u64 b2 9223372036854775808, b5)).bind fun b6 =>
         (some ((b6, Prod.fst (Prod.snd b4), 0)))))))))))))))) := by kernel_rfl
noncomputable def bitmap_Get.f : El (sgTy bitmap_Get.sg) → Option (El bitmap_Get.rs.ty) := fun x => match x with
  | (a0, (a1, a2)) =>
  ((bitmap_known.f a0).bind fun b0 =>
  (if ¬b0 = true then (some (((0, 0), 0, 1)))
  else (if a2 < 0 then (some (((0, 0), 0, 1)))
   else (if a2 > (↑(ByteArray.size a1) : Int) then (some (((0, 0), 0, 1)))
    else ((bitmap_take.f (a0, a1, a2)).bind fun b1 =>
     (if ¬Prod.snd (Prod.snd b1) = 0 then (some (((0, 0), 0, Prod.snd (Prod.snd b1))))
     else ((bitmap_bits.f (Prod.fst b1)).bind fun b2 =>
      (if bits BinOp.and IntKind.u64 b2 9223372036854775808 = 0 then ((fields_Bits.f (b2, 0)).bind fun b3 =>
       (some ((b3, Prod.fst (Prod.snd b1), 0))))
      else ((bitmap_take.f (a0, a1, Prod.fst (Prod.snd b1))).bind fun b4 =>
       (if ¬Prod.snd (Prod.snd b4) = 0 then (some (((0, 0), 0, Prod.snd (Prod.snd b4))))
       else (if Prod.fst (Prod.fst b4) = 0 ∧ Prod.fst (Prod.snd (Prod.fst b4)) = 0 ∧ Prod.fst (Prod.snd (Prod.snd (Prod.fst b4))) = 0 ∧ Prod.fst (Prod.snd (Prod.snd (Prod.snd (Prod.fst b4)))) = 0 ∧ Prod.fst (Prod.snd (Prod.snd (Prod.snd (Prod.snd (Prod.fst b4))))) = 0 ∧ Prod.fst (Prod.snd (Prod.snd (Prod.snd (Prod.snd (Prod.snd (Prod.fst b4)))))) = 0 ∧ Prod.fst (Prod.snd (Prod.snd (Prod.snd (Prod.snd (Prod.snd (Prod.snd (Prod.fst b4))))))) = 0 ∧ Prod.snd (Prod.snd (Prod.snd (Prod.snd (Prod.snd (Prod.snd (Prod.snd (Prod.fst b4))))))) = 0 ∧ True then (some (((0, 0), 0, 8)))
        else ((bitmap_bits.f (Prod.fst b4)).bind fun b5 =>
         ((fields_Bits.f (bits BinOp.andNot IntKind.u64 b2 9223372036854775808, b5)).bind fun b6 =>
         (some ((b6, Prod.fst (Prod.snd b4), 0))))))))))))))))
noncomputable def bitmap_Get.c : Con := ⟨16, bitmap_Get.sg, bitmap_Get.rs, bitmap_Get.f⟩
theorem bitmap_Get.con : ConOk Tryz.prog bitmap_Get.c := walked (C := bitmap_Get.C) rfl (by kernel_rfl) (by kernel_rfl) (by kernel_rfl) rfl ⟨bitmap_known.con, bitmap_take.con, bitmap_bits.con, fields_Bits.con, trivial⟩ fun ⟨a0, ⟨a1, a2⟩⟩ y h => ⟨0, (bitmap_Get.eq 0 a0 a1 a2).trans h⟩
theorem bitTake_next (s : Int) (l : List UInt8) (i : Nat) (hi : i ≤ l.length) : (bitTake s l i).2.1 ≤ l.length := by
  unfold bitTake
  repeat' split
  all_goals dsimp only <;> omega
theorem bitmap_Get (s : Int) (l : List UInt8) (hl : l.length ≤ 70368744177664) (a : Int) : bitmap_Get.f (s, (sb l, a)) = some (((((bitGet s l a).1.1 : Nat) : Int), (((bitGet s l a).1.2 : Nat) : Int)), (((bitGet s l a).2.1 : Nat) : Int), (bitGet s l a).2.2) := by
  simp only [bitmap_Get.f]
  rw [bitmap_known, Option.bind_some]
  unfold bitGet
  by_cases h1 : s = 1 ∨ s = 2
  · rw [if_neg (by simp [h1])]
    by_cases h2 : a < 0
    · rw [if_pos h2, if_pos (.inr (.inl h2))]; rfl
    rw [if_neg h2, size_sb]
    by_cases h3 : a > (l.length : Int)
    · rw [if_pos h3, if_pos (.inr (.inr h3))]; rfl
    obtain ⟨i, rfl⟩ := Int.eq_ofNat_of_zero_le (show 0 ≤ a by omega)
    rw [if_neg h3, if_neg (by omega)]
    have h3 : i ≤ l.length := by simpa using h3
    rw [Int.toNat_natCast]
    rw [bitmap_take s l hl i h3, Option.bind_some]
    dsimp only
    have e1 := bitTake_len s l i
    by_cases h4 : (bitTake s l i).2.2 = 0
    · rw [if_neg (show ¬ ¬ (bitTake s l i).2.2 = 0 from fun e => e h4), if_neg (show ¬ (bitTake s l i).2.2 ≠ 0 from fun e => e h4), bitmap_bits _ e1, Option.bind_some]
      have hx := nat8_lt e1
      have n1 := bitTake_next s l i h3
      generalize nat8 (bitTake s l i).1 = x at *
      have ha := bits_and_u64_nat x 9223372036854775808 hx (by decide)
      rw [and_top, top_iff hx] at ha
      have ha : Go.bits .and .u64 (x : Int) 9223372036854775808 = _ := ha
      rw [ha]
      by_cases h5 : x < 9223372036854775808
      · rw [if_pos (by simp; omega), if_pos h5]; rfl
      · rw [if_neg (by rw [if_pos (by simp; omega)]; decide), if_neg h5, bitmap_take s l hl _ n1, Option.bind_some]
        dsimp only
        have e2 := bitTake_len s l (bitTake s l i).2.1
        by_cases h6 : (bitTake s l (bitTake s l i).2.1).2.2 = 0
        · rw [if_neg (show ¬ ¬ (bitTake s l (bitTake s l i).2.1).2.2 = 0 from fun e => e h6), if_neg (show ¬ (bitTake s l (bitTake s l i).2.1).2.2 ≠ 0 from fun e => e h6)]
          have hz := t8_zero e2
          by_cases h7 : nat8 (bitTake s l (bitTake s l i).2.1).1 = 0
          · rw [if_pos (hz.2 h7), if_pos h7]; rfl
          · rw [if_neg (fun e => h7 (hz.1 e)), if_neg h7, bitmap_bits _ e2, Option.bind_some, fields_Bits, Option.bind_some, andNot_top x hx]
        · rw [if_pos (show ¬ (bitTake s l (bitTake s l i).2.1).2.2 = 0 from h6), if_pos (show (bitTake s l (bitTake s l i).2.1).2.2 ≠ 0 from h6)]; rfl
    · rw [if_pos (show ¬ (bitTake s l i).2.2 = 0 from h4), if_pos (show (bitTake s l i).2.2 ≠ 0 from h4)]; rfl
  · rw [if_pos (by simp [h1]), if_pos (.inl h1)]; rfl
end Go.Proofs.YtkaihbkfobiejaaGreatDoor.Xe
