import Derived.Test.YtkaihbkfobiejaaGreatDoorZ9
import Derived.Test.YtkaihbkfobiejaaGreatDoorZ20
import Derived.Test.YtkaihbkfobiejaaGreatDoorZ7
import Derived.Test.YtkaihbkfobiejaaGreatDoorZ11
import Derived.Test.YtkaihbkfobiejaaGreatDoorZ12
namespace Go.Proofs.YtkaihbkfobiejaaGreatDoor.Xe
open Go Go.RowKit Go.Proofs.YtkaihbkfobiejaaGreatDoor.Sp
set_option linter.unusedVariables false
set_option linter.unusedSimpArgs false
set_option maxRecDepth 100000
@[reducible] def frame_Put.sg : List Shp := [.v (.str)]
@[reducible] def frame_Put.rs : Rs := .tup [.v (.str), .v (.int .i64)]
@[reducible] noncomputable def frame_Put.code : Code := Tryz.f115.body.getD .skip
noncomputable def frame_Put.C : Ctx := ⟨tab, [], [], ⟨[], []⟩⟩
theorem frame_Put.eq (n : Nat) (a0 : ByteArray) : call frame_Put.C Tryz.f115 frame_Put.code frame_Put.sg frame_Put.rs n a0 =
 (if (a0.size : Int) < 1 then (some ((ByteArray.mk #[], 5)))
 else (if (a0.size : Int) > 65535 then (some ((ByteArray.mk #[], 5)))
 else ((scat (bytesOf [IntKind.wrap .u8 (Int.fdiv (a0.size : Int) (2 ^ 8)), IntKind.wrap .u8 (a0.size : Int)]) a0).bind fun b0 =>
 (some ((b0, 0)))))) := by kernel_rfl
noncomputable def frame_Put.f : El (sgTy frame_Put.sg) → Option (El frame_Put.rs.ty) := fun x => match x with
 | a0 =>
 (if (↑(ByteArray.size a0) : Int) < 1 then (some ((ByteArray.mk #[], 5)))
 else (if (↑(ByteArray.size a0) : Int) > 65535 then (some ((ByteArray.mk #[], 5)))
  else ((scat (bytesOf [IntKind.wrap IntKind.u8 (Int.fdiv (↑(ByteArray.size a0) : Int) (2 ^ 8)), IntKind.wrap IntKind.u8 (↑(ByteArray.size a0) : Int)]) a0).bind fun b0 =>
  (some ((b0, 0))))))
noncomputable def frame_Put.c : Con := ⟨115, frame_Put.sg, frame_Put.rs, frame_Put.f⟩
theorem frame_Put.con : ConOk Tryz.prog frame_Put.c := walked (C := frame_Put.C) rfl (by kernel_rfl) (by kernel_rfl) (by kernel_rfl) rfl trivial fun a0 y h => ⟨0, (frame_Put.eq 0 a0).trans h⟩
@[reducible] def frame_New.sg : List Shp := [.v (.int .i64)]
@[reducible] def frame_New.rs : Rs := .tup [.v (.int .i64)]
@[reducible] noncomputable def frame_New.code : Code := Tryz.f71.body.getD .skip
noncomputable def frame_New.C : Ctx := ⟨tab, [], [], ⟨[], []⟩⟩
theorem frame_New.eq (n : Nat) (a0 : Int) : callN frame_New.C Tryz.f71 frame_New.code frame_New.sg frame_New.rs framerSh n a0 =
 (if a0 < 1 then none
 else (if a0 > 65535 then none
 else (some ((0, a0, false, []))))) := by kernel_rfl
noncomputable def frame_New.f (a : El (sgTy frame_New.sg)) : Option (El (.pair frame_New.rs.ty (objTy framerSh))) := callN frame_New.C Tryz.f71 frame_New.code frame_New.sg frame_New.rs framerSh 0 a
noncomputable def frame_New.s : ConS := objN 71 frame_New.sg [.v (.int .i64)] framerSh frame_New.f
theorem frame_New.sok : ConSOk Tryz.prog frame_New.s := objN_ok (C := frame_New.C) (code := frame_New.code) (show TabOk Tryz.prog frame_New.C.T from tabOk) ⟨AllOk.all (show AllOk frame_New.C.G from trivial), fun c hc => absurd (show c ∈ ([] : List ConS) from hc) (by simp)⟩ mixed (by kernel_rfl) (by kernel_rfl) (by kernel_rfl) (by decide) (by decide) fun a y h => ⟨0, h⟩
theorem frame_New {m : Int} (h1 : 1 ≤ m) (h2 : m ≤ 65535) : frame_New.f m = some (0, m, false, []) := (frame_New.eq 0 m).trans (by rw [if_neg (by omega), if_neg (by omega)])
@[reducible] def frame_Framer_size.sg : List Shp := [.p (.pair (.int .i64) (.pair (.bool) (.sl (.int .u8))))]
@[reducible] def frame_Framer_size.rs : Rs := .one (.v (.int .i64))
@[reducible] noncomputable def frame_Framer_size.code : Code := Tryz.f114.body.getD .skip
noncomputable def frame_Framer_size.C : Ctx := ⟨tab, [], [], ⟨[], []⟩⟩
theorem frame_Framer_size.eq (n : Nat) (a0 : Int) (a1 : Bool) (a2 : List Int) : call frame_Framer_size.C Tryz.f114 frame_Framer_size.code frame_Framer_size.sg frame_Framer_size.rs n (a0, (a1, a2)) =
 (if (a2.length : Int) < 2 then (some 0)
 else ((lget a2 0).bind fun b0 =>
 ((lget a2 1).bind fun b1 =>
 (some (bits BinOp.or IntKind.i64 (IntKind.wrap .i64 (IntKind.wrap .i64 b0 * 2 ^ 8)) (IntKind.wrap .i64 b1)))))) := by kernel_rfl
noncomputable def frame_Framer_size.f : El (sgTy frame_Framer_size.sg) → Option (El frame_Framer_size.rs.ty) := fun x => match x with
 | (a0, (a1, a2)) =>
 (if (↑(List.length a2) : Int) < 2 then (some 0)
 else ((lget a2 0).bind fun b0 =>
  ((lget a2 1).bind fun b1 =>
  (some (bits BinOp.or IntKind.i64 (IntKind.wrap IntKind.i64 (IntKind.wrap IntKind.i64 b0 * 2 ^ 8)) (IntKind.wrap IntKind.i64 b1))))))
noncomputable def frame_Framer_size.c : Con := ⟨114, frame_Framer_size.sg, frame_Framer_size.rs, frame_Framer_size.f⟩
theorem frame_Framer_size.con : ConOk Tryz.prog frame_Framer_size.c := walked (C := frame_Framer_size.C) rfl (by kernel_rfl) (by kernel_rfl) (by kernel_rfl) rfl trivial fun ⟨a0, ⟨a1, a2⟩⟩ y h => ⟨0, (frame_Framer_size.eq 0 a0 a1 a2).trans h⟩
noncomputable def szF (l : List Int) : Int := (frame_Framer_size.f (0, false, l)).getD 0
theorem frame_Framer_size (m : Int) (d : Bool) : ∀ l : List Int, frame_Framer_size.f (m, d, l) = some (szF l)
 | [] => rfl
 | [_] => rfl
 | _ :: _ :: _ => by
  unfold szF
  simp only [frame_Framer_size.f]
  rw [if_neg (by simp only [List.length_cons]; omega)]
  rfl
theorem szF_small {l : List Int} (h : l.length < 2) : szF l = 0 := by
 unfold szF
 simp only [frame_Framer_size.f]
 rw [if_pos (by omega)]; rfl
noncomputable def step1 (most : Int) (s : Bool × List Int) (c : UInt8) : List (Option ByteArray) × Bool × List Int :=
 if s.1 = true then ([], s)
 else if ((s.2 ++ [(c.toNat : Int)]).length : Int) = 2 ∧ (szF (s.2 ++ [(c.toNat : Int)]) = 0 ∨ szF (s.2 ++ [(c.toNat : Int)]) > most) then ([none], true, [])
 else if ((s.2 ++ [(c.toNat : Int)]).length : Int) = IntKind.wrap .i64 (2 + szF (s.2 ++ [(c.toNat : Int)])) ∧ szF (s.2 ++ [(c.toNat : Int)]) > 0 then ([some (bytesOf ((s.2 ++ [(c.toNat : Int)]).drop 2))], false, [])
 else ([], false, s.2 ++ [(c.toNat : Int)])
noncomputable def runP (most : Int) : List UInt8 → Bool × List Int → List (Option ByteArray) × Bool × List Int
 | [], s => ([], s)
 | c :: r, s => ((step1 most s c).1 ++ (runP most r (step1 most s c).2).1, (runP most r (step1 most s c).2).2)
def pays : List (Option ByteArray) → List ByteArray
 | [] => []
 | some p :: l => p :: pays l
 | none :: l => pays l
def died : List (Option ByteArray) → Bool
 | [] => false
 | some _ :: l => died l
 | none :: _ => true
theorem runP_dead (most : Int) : ∀ (r : List UInt8) (l : List Int), runP most r (true, l) = ([], true, l)
 | [], _ => rfl
 | c :: r, l => by
  rw [runP, show step1 most (true, l) c = ([], true, l) from if_pos rfl, runP_dead most r l]; rfl
theorem runP_append (most : Int) : ∀ (a b : List UInt8) (s : Bool × List Int), runP most (a ++ b) s = ((runP most a s).1 ++ (runP most b (runP most a s).2).1, (runP most b (runP most a s).2).2)
 | [], b, s => rfl
 | c :: a, b, s => by
  rw [List.cons_append, runP, runP, runP_append most a b, List.append_assoc]
theorem step1_length (most : Int) (s : Bool × List Int) (c : UInt8) : (step1 most s c).1.length ≤ 1 ∧ (step1 most s c).2.2.length ≤ s.2.length + 1 := by
 unfold step1
 split
 ·exact ⟨by simp, by show s.2.length ≤ _; omega⟩
 split
 ·exact ⟨by simp, by simp⟩
 split
 ·exact ⟨by simp, by simp⟩
 ·exact ⟨by simp, by rw [List.length_append]; exact Nat.le_refl _⟩
theorem runP_length (most : Int) : ∀ (r : List UInt8) (s : Bool × List Int), (runP most r s).1.length ≤ r.length ∧ (runP most r s).2.2.length ≤ s.2.length + r.length
 | [], s => ⟨by simp [runP], by simp [runP]⟩
 | c :: r, s => by
  obtain ⟨h1, h2⟩ := step1_length most s c
  obtain ⟨h3, h4⟩ := runP_length most r (step1 most s c).2
  rw [runP, List.length_append, List.length_cons]
  exact ⟨by omega, by show (runP most r (step1 most s c).2).2.2.length ≤ _; omega⟩
theorem bytesOf_size (l : List Int) : (bytesOf l).size = l.length := by simp [bytesOf, ByteArray.size]
theorem runP_size (most : Int) : ∀ (r : List UInt8) (s : Bool × List Int), ∀ p, some p ∈ (runP most r s).1 → p.size ≤ s.2.length + r.length
 | [], s, p, h => by simp [runP] at h
 | c :: r, s, p, h => by
  rw [runP] at h
  rw [List.length_cons]
  rcases List.mem_append.1 h with h | h
  ·unfold step1 at h
   split at h
   ·simp at h
   split at h
   ·simp at h
   split at h
   ·simp only [List.mem_singleton, Option.some.injEq] at h
    rw [h, bytesOf_size, List.length_drop, List.length_append, List.length_singleton]
    omega
   ·simp at h
  ·have := runP_size most r _ p h
   have := (step1_length most s c).2
   omega
theorem pays_length : ∀ l : List (Option ByteArray), (pays l).length ≤ l.length
 | [] => Nat.le_refl _
 | some p :: l => by have := pays_length l; rw [pays, List.length_cons, List.length_cons]; omega
 | none :: l => by have := pays_length l; rw [pays, List.length_cons]; omega
theorem runP_evs (most : Int) : ∀ (r : List UInt8) (s : Bool × List Int), (runP most r s).1 = (pays (runP most r s).1).map some ++ (if died (runP most r s).1 = true then [none] else [])
 | [], s => rfl
 | c :: r, s => by
  rw [runP]
  have ih := runP_evs most r (step1 most s c).2
  dsimp only
  have key : ((step1 most s c).1 = [] ∨ ∃ p, (step1 most s c).1 = [some p]) ∨ ((step1 most s c).1 = [none] ∧ (step1 most s c).2.1 = true) := by
   unfold step1
   split
   ·exact .inl (.inl rfl)
   split
   ·exact .inr ⟨rfl, rfl⟩
   split
   ·exact .inl (.inr ⟨_, rfl⟩)
   ·exact .inl (.inl rfl)
  rcases key with (h | ⟨p, h⟩) | ⟨h, hd⟩
  ·rw [h, List.nil_append]; exact ih
  ·rw [h]
   generalize (runP most r (step1 most s c).2).1 = X at ih
   exact congrArg (some p :: ·) ih
  ·obtain ⟨d, l⟩ : ∃ q : Bool × List Int, q = (step1 most s c).2 := ⟨_, rfl⟩
   have : (step1 most s c).2 = (true, (step1 most s c).2.2) := by rw [← hd]
   rw [h, this, runP_dead]; rfl
theorem lsub_two {l : List Int} (h : 2 ≤ l.length) : lsub l 2 (l.length : Int) = some (l.drop 2) := by
 unfold lsub
 rw [if_pos ⟨by omega, by omega, by omega⟩, Int.toNat_natCast, List.take_length]; rfl
@[reducible] def frame_Framer_Feed.sg : List Shp := [.v (.str)]
@[reducible] def frame_Framer_Feed.rs : Rs := .tup [.v (.sl (.str)), .v (.bool)]
@[reducible] noncomputable def frame_Framer_Feed.code : Code := Tryz.f73.body.getD .skip
noncomputable def frame_Framer_Feed.C : Ctx := ⟨tab, [frame_Framer_size.c], [], ⟨[(3, [0, 1, 6, 7], 1)], [(1000003, [(6, .str)]), (2000003, [(2, .int .u8)]), (3000000, [(1, .unit)])]⟩⟩
noncomputable def frame_Framer_Feed.l0 (n : Nat) (v0 : ByteArray) (v1 : List ByteArray) (v2 v3 : Int) (v4 : Bool) (v5 : List Int) : Option (((List ByteArray × Bool) × (Int × (Bool × List Int)))) := run frame_Framer_Feed.C (finT frame_Framer_Feed.C Tryz.f73 false frame_Framer_Feed.rs framerSh) n (todoAt 3 frame_Framer_Feed.code) ⟨.ptr 0 0 :: .str v0 :: zJ :: zJ :: zJ :: zJ :: .sl (some 1) (.str) v1 :: .int .i64 v2 :: zK (zK (zK (zK (zK (zK (zK (zK (zK (zK []))))))))), [[.int .i64 v3, .b v4, .sl (some 0) (.int .u8) v5]], [true, true]⟩
theorem frame_Framer_Feed.l0_eq n v0 v1 v2 v3 v4 v5 : frame_Framer_Feed.l0 (n + 1) v0 v1 v2 v3 v4 v5 =
 (if v2 < (v0.size : Int) then (if ¬v4 = true then ((bget v0 v2).bind fun b0 =>
 ((lcat 1 v5 [(↑(UInt8.toNat b0) : Int)]).bind fun b1 =>
 ((frame_Framer_size.f (v3, decide (v4 = true), b1)).bind fun b2 =>
 (if (b1.length : Int) = 2 then (if b2 = 0 then (some (((v1, true), v3, true, [])))
 else (if b2 > v3 then (some (((v1, true), v3, true, [])))
 else (if (b1.length : Int) = IntKind.wrap .i64 (2 + b2) then (if b2 > 0 then ((lsub b1 2 (b1.length : Int)).bind fun b3 =>
 ((lcat 16 v1 [bytesOf b3]).bind fun b4 =>
 (frame_Framer_Feed.l0 n v0 b4 (IntKind.wrap .i64 (v2 + 1)) v3 (decide (v4 = true)) [])))
 else (frame_Framer_Feed.l0 n v0 v1 (IntKind.wrap .i64 (v2 + 1)) v3 (decide (v4 = true)) b1))
 else (frame_Framer_Feed.l0 n v0 v1 (IntKind.wrap .i64 (v2 + 1)) v3 (decide (v4 = true)) b1))))
 else (if (b1.length : Int) = IntKind.wrap .i64 (2 + b2) then (if b2 > 0 then ((lsub b1 2 (b1.length : Int)).bind fun b5 =>
 ((lcat 16 v1 [bytesOf b5]).bind fun b6 =>
 (frame_Framer_Feed.l0 n v0 b6 (IntKind.wrap .i64 (v2 + 1)) v3 (decide (v4 = true)) [])))
 else (frame_Framer_Feed.l0 n v0 v1 (IntKind.wrap .i64 (v2 + 1)) v3 (decide (v4 = true)) b1))
 else (frame_Framer_Feed.l0 n v0 v1 (IntKind.wrap .i64 (v2 + 1)) v3 (decide (v4 = true)) b1))))))
 else (some (((v1, false), v3, decide (v4 = true), v5))))
 else (some (((v1, false), v3, decide (v4 = true), v5)))) := by kernel_rfl
theorem frame_Framer_Feed.eq (n : Nat) (a0 : Int) (a1 : Bool) (a2 : List Int) (a3 : ByteArray) : callM frame_Framer_Feed.C Tryz.f73 frame_Framer_Feed.code frame_Framer_Feed.sg frame_Framer_Feed.rs framerSh n (a0, (a1, a2)) a3 =
 (frame_Framer_Feed.l0 n a3 [] 0 a0 (decide (a1 = true)) a2) := by kernel_rfl
theorem frame_feed_l (chunk : List UInt8) (hc : chunk.length ≤ 1000000) (most : Int) : ∀ (r : List UInt8) (k i : Nat) (dead : Bool) (l : List Int) (out : List ByteArray), chunk.drop i = r → r.length < k → l.length + r.length ≤ 1000000000 → out.length + r.length ≤ 1000000000 →
  frame_Framer_Feed.l0 k (sb chunk) out (i : Int) most dead l = some ((out ++ pays (runP most r (dead, l)).1, died (runP most r (dead, l)).1), most, (runP most r (dead, l)).2)
 | [], k, i, dead, l, out, hd, hk, hl, ho => by
  obtain ⟨k, rfl⟩ : ∃ m, k = m + 1 := ⟨k - 1, by omega⟩
  have := List.drop_eq_nil_iff.1 hd
  rw [frame_Framer_Feed.l0_eq, size_sb, if_neg (by omega), Bool.decide_eq_true]
  simp [runP, pays, died]
 | c :: r, k, i, dead, l, out, hd, hk, hl, ho => by
  obtain ⟨k, rfl⟩ : ∃ m, k = m + 1 := ⟨k - 1, by omega⟩
  obtain ⟨h1, h2, h3, -⟩ := dropc hd
  have hk' : r.length < k := by simp at hk; omega
  rw [frame_Framer_Feed.l0_eq, size_sb, if_pos (by omega)]
  cases dead with
  | true =>
   rw [if_neg (by simp), runP_dead]
   simp [pays, died]
  | false =>
   have hl' : l.length + r.length + 1 ≤ 1000000000 := by rw [List.length_cons] at hl; omega
   have ho' : out.length + r.length + 1 ≤ 1000000000 := by rw [List.length_cons] at ho; omega
   rw [if_pos (by simp), bget_drop hd, Option.bind_some, lcat_ok _ _ _ (by rw [List.length_singleton]; omega), Option.bind_some, frame_Framer_size, Option.bind_some, wrap_succ (by omega), runP]
   have hl2 : (l ++ [(c.toNat : Int)]).length = l.length + 1 := by rw [List.length_append]; rfl
   have s1 : step1 most (false, l) c = if ((l ++ [(c.toNat : Int)]).length : Int) = 2 ∧ (szF (l ++ [(c.toNat : Int)]) = 0 ∨ szF (l ++ [(c.toNat : Int)]) > most) then ([none], true, [])
     else if ((l ++ [(c.toNat : Int)]).length : Int) = IntKind.wrap .i64 (2 + szF (l ++ [(c.toNat : Int)])) ∧ szF (l ++ [(c.toNat : Int)]) > 0 then ([some (bytesOf ((l ++ [(c.toNat : Int)]).drop 2))], false, [])
     else ([], false, l ++ [(c.toNat : Int)]) := rfl
   rw [s1]
   clear s1
   generalize l ++ [(c.toNat : Int)] = l2 at *
   have dead1 : some (((out, true), most, true, []) : (List ByteArray × Bool) × Int × Bool × List Int) = some ((out ++ pays ([none] ++ (runP most r (true, [])).1), died ([none] ++ (runP most r (true, [])).1)), most, (runP most r (true, [])).2) := by
    rw [runP_dead]; simp [pays, died]
   have tail : (if (l2.length : Int) = IntKind.wrap .i64 (2 + szF l2) then (if szF l2 > 0 then ((lsub l2 2 (l2.length : Int)).bind fun b5 => ((lcat 16 out [bytesOf b5]).bind fun b6 => frame_Framer_Feed.l0 k (sb chunk) b6 ((i + 1 : Nat) : Int) most (decide (false = true)) []))
      else frame_Framer_Feed.l0 k (sb chunk) out ((i + 1 : Nat) : Int) most (decide (false = true)) l2) else frame_Framer_Feed.l0 k (sb chunk) out ((i + 1 : Nat) : Int) most (decide (false = true)) l2) =
     some ((out ++ pays ((if (l2.length : Int) = IntKind.wrap .i64 (2 + szF l2) ∧ szF l2 > 0 then (([some (bytesOf (l2.drop 2))], false, []) : List (Option ByteArray) × Bool × List Int) else ([], false, l2)).1 ++ (runP most r (if (l2.length : Int) = IntKind.wrap .i64 (2 + szF l2) ∧ szF l2 > 0 then (([some (bytesOf (l2.drop 2))], false, []) : List (Option ByteArray) × Bool × List Int) else ([], false, l2)).2).1),
      died ((if (l2.length : Int) = IntKind.wrap .i64 (2 + szF l2) ∧ szF l2 > 0 then (([some (bytesOf (l2.drop 2))], false, []) : List (Option ByteArray) × Bool × List Int) else ([], false, l2)).1 ++ (runP most r (if (l2.length : Int) = IntKind.wrap .i64 (2 + szF l2) ∧ szF l2 > 0 then (([some (bytesOf (l2.drop 2))], false, []) : List (Option ByteArray) × Bool × List Int) else ([], false, l2)).2).1)), most,
      (runP most r (if (l2.length : Int) = IntKind.wrap .i64 (2 + szF l2) ∧ szF l2 > 0 then (([some (bytesOf (l2.drop 2))], false, []) : List (Option ByteArray) × Bool × List Int) else ([], false, l2)).2).2) := by
    have go : frame_Framer_Feed.l0 k (sb chunk) out ((i + 1 : Nat) : Int) most (decide (false = true)) l2 = some ((out ++ pays ([] ++ (runP most r (false, l2)).1), died ([] ++ (runP most r (false, l2)).1)), most, (runP most r (false, l2)).2) :=
     frame_feed_l chunk hc most r k (i + 1) false l2 out h2 hk' (by omega) (by omega)
    by_cases c3 : (l2.length : Int) = IntKind.wrap .i64 (2 + szF l2)
    ·rw [if_pos c3]
     by_cases c4 : szF l2 > 0
     ·have h2l : 2 ≤ l2.length := by
       rcases Nat.lt_or_ge l2.length 2 with hh | hh
       ·rw [szF_small hh] at c4; omega
       ·exact hh
      rw [if_pos c4, if_pos ⟨c3, c4⟩, lsub_two h2l, Option.bind_some, lcat_ok _ _ _ (by rw [List.length_singleton]; omega), Option.bind_some]
      refine (frame_feed_l chunk hc most r k (i + 1) false [] (out ++ [bytesOf (l2.drop 2)]) h2 hk' (by simp; omega) (by rw [List.length_append, List.length_singleton]; omega)).trans ?_
      simp [pays, died]
     ·rw [if_neg c4, if_neg (fun q => c4 q.2)]; exact go
    ·rw [if_neg c3, if_neg (fun q => c3 q.1)]; exact go
   by_cases c1 : (l2.length : Int) = 2
   ·rw [if_pos c1]
    by_cases c2 : szF l2 = 0
    ·rw [if_pos c2, if_pos ⟨c1, .inl c2⟩]; exact dead1
    ·rw [if_neg c2]
     by_cases c3 : szF l2 > most
     ·rw [if_pos c3, if_pos ⟨c1, .inr c3⟩]; exact dead1
     ·rw [if_neg c3, if_neg (show ¬ ((l2.length : Int) = 2 ∧ (szF l2 = 0 ∨ szF l2 > most)) from fun q => q.2.elim c2 c3)]; exact tail
   ·rw [if_neg c1, if_neg (show ¬ ((l2.length : Int) = 2 ∧ (szF l2 = 0 ∨ szF l2 > most)) from fun q => c1 q.1)]; exact tail
noncomputable def frame_Framer_Feed.f (x : El (objTy framerSh)) (a : El (sgTy frame_Framer_Feed.sg)) : Option (El (.pair frame_Framer_Feed.rs.ty (objTy framerSh))) := callM frame_Framer_Feed.C Tryz.f73 frame_Framer_Feed.code frame_Framer_Feed.sg frame_Framer_Feed.rs framerSh 10000 x a
noncomputable def frame_Framer_Feed.s : ConS := objM 73 frame_Framer_Feed.sg frame_Framer_Feed.rs framerSh frame_Framer_Feed.f
theorem frame_Framer_Feed.sok : ConSOk Tryz.prog frame_Framer_Feed.s := objM_ok (C := frame_Framer_Feed.C) (code := frame_Framer_Feed.code) (show TabOk Tryz.prog frame_Framer_Feed.C.T from tabOk) ⟨AllOk.all (show AllOk frame_Framer_Feed.C.G from ⟨frame_Framer_size.con, trivial⟩), fun c hc => absurd (show c ∈ ([] : List ConS) from hc) (by simp)⟩ mixed (by kernel_rfl) (by kernel_rfl) (by kernel_rfl) (by decide) fun x a y h => ⟨10000, h⟩
theorem frame_Framer_Feed (most : Int) (s : Bool × List Int) (chunk : List UInt8) (hc : chunk.length ≤ 5000) (hs : s.2.length ≤ 10000) : frame_Framer_Feed.f (most, s) (sb chunk) = some ((pays (runP most chunk s).1, died (runP most chunk s).1), most, (runP most chunk s).2) := by
 obtain ⟨d, l⟩ := s
 refine (frame_Framer_Feed.eq 10000 most d l (sb chunk)).trans ?_
 rw [Bool.decide_eq_true]
 dsimp only at hs
 refine (frame_feed_l chunk (by omega) most chunk 10000 0 d l [] rfl (by omega) (by omega) (by simp; omega)).trans ?_
 rw [List.nil_append]
@[reducible] def r04_Is.sg : List Shp := [.v (.int .i64), .v (.int .u8)]
@[reducible] def r04_Is.rs : Rs := .one (.v (.bool))
@[reducible] noncomputable def r04_Is.code : Code := Tryz.f183.body.getD .skip
noncomputable def r04_Is.C : Ctx := ⟨tab, [], [], ⟨[], [(1, [(5, .bool)]), (2, [(6, .bool)]), (11, [(4, .bool)]), (9, [(4, .bool)]), (12, [(4, .bool)])]⟩⟩
theorem r04_Is.eq (n : Nat) (a0 a1 : Int) : call r04_Is.C Tryz.f183 r04_Is.code r04_Is.sg r04_Is.rs n (a0, a1) =
 ((((if a1 ≥ 48 then (some (decide (a1 ≤ 57)))
 else (some false)) : Option Bool)).bind fun b0 =>
 ((((if a1 ≥ 65 then (if a1 ≤ 90 then (some true)
 else (if a1 ≥ 97 then (some (decide (a1 ≤ 122)))
 else (some false)))
 else (if a1 ≥ 97 then (some (decide (a1 ≤ 122)))
 else (some false))) : Option Bool)).bind fun b1 =>
 (if a0 = 1 then (some (decide (b0 = true)))
 else (if a0 = 2 then (some (decide (b1 = true)))
 else (if a0 = 3 then ((((if b0 = true then (some true)
 else (some (decide (b1 = true)))) : Option Bool)).bind fun b2 =>
 (some (decide (b2 = true))))
 else (if a0 = 4 then ((((if a1 ≥ 32 then (some (decide (a1 ≤ 126)))
 else (some false)) : Option Bool)).bind fun b3 =>
 (some (decide (b3 = true))))
 else ((((if a0 = 5 then (some true)
 else (some (decide (a0 = 6)))) : Option Bool)).bind fun b4 =>
 (some (decide (b4 = true)))))))))) := by kernel_rfl
noncomputable def r04_Is.f : El (sgTy r04_Is.sg) → Option (El r04_Is.rs.ty) := fun x => match x with
 | (a0, a1) =>
 ((((if a1 ≥ 48 then (some (decide (a1 ≤ 57)))
  else (some false)) : Option Bool)).bind fun b0 =>
 ((((if a1 ≥ 65 then (if a1 ≤ 90 then (some true)
  else (if a1 ≥ 97 then (some (decide (a1 ≤ 122)))
   else (some false)))
  else (if a1 ≥ 97 then (some (decide (a1 ≤ 122)))
  else (some false))) : Option Bool)).bind fun b1 =>
 (if a0 = 1 then (some (decide (b0 = true)))
 else (if a0 = 2 then (some (decide (b1 = true)))
  else (if a0 = 3 then ((((if b0 = true then (some true)
   else (some (decide (b1 = true)))) : Option Bool)).bind fun b2 =>
   (some (decide (b2 = true))))
  else (if a0 = 4 then ((((if a1 ≥ 32 then (some (decide (a1 ≤ 126)))
    else (some false)) : Option Bool)).bind fun b3 =>
   (some (decide (b3 = true))))
   else ((((if a0 = 5 then (some true)
    else (some (decide (a0 = 6)))) : Option Bool)).bind fun b4 =>
   (some (decide (b4 = true))))))))))
noncomputable def r04_Is.c : Con := ⟨183, r04_Is.sg, r04_Is.rs, r04_Is.f⟩
theorem r04_Is.con : ConOk Tryz.prog r04_Is.c := walked (C := r04_Is.C) rfl (by kernel_rfl) (by kernel_rfl) (by kernel_rfl) rfl trivial fun ⟨a0, a1⟩ y h => ⟨0, (r04_Is.eq 0 a0 a1).trans h⟩
theorem ref_Is256 : ∀ n : Fin 256, r04_Is.f (1, ((n.val : Nat) : Int)) = some (inN 1 ((n.val : Nat) : Int)) ∧ r04_Is.f (2, ((n.val : Nat) : Int)) = some (inN 2 ((n.val : Nat) : Int)) ∧ r04_Is.f (3, ((n.val : Nat) : Int)) = some (inN 3 ((n.val : Nat) : Int)) ∧ r04_Is.f (4, ((n.val : Nat) : Int)) = some (inN 4 ((n.val : Nat) : Int)) ∧ r04_Is.f (5, ((n.val : Nat) : Int)) = some (inN 5 ((n.val : Nat) : Int)) ∧ r04_Is.f (6, ((n.val : Nat) : Int)) = some (inN 6 ((n.val : Nat) : Int)) := by decide +kernel
theorem bind_const {α β : Type} (x : Option α) (y : Option β) (h : x.isSome = true) : (x.bind fun _ => y) = y := by
 cases x with
 | none => cases h
 | some a => rfl
theorem ref_Is_out {c : Int} (h : ¬ (1 ≤ c ∧ c ≤ 6)) (n : Int) : r04_Is.f (c, n) = some false := by
 obtain ⟨h1, h2, h3, h4, h5, h6⟩ := out_class h
 simp only [r04_Is.f, if_neg h1, if_neg h2, if_neg h3, if_neg h4, if_neg h5, decide_eq_false h6, Option.bind_some]
 rw [bind_const _ _ (by repeat' split
                        all_goals rfl), bind_const _ _ (by repeat' split
                                                           all_goals rfl)]
 rfl
theorem r04_Is (c : Int) (x : UInt8) : r04_Is.f (c, (x.toNat : Int)) = some (inC c x) := by
 obtain ⟨p1, p2, p3, p4, p5, p6⟩ := ref_Is256 ⟨x.toNat, u8_lt x⟩
 by_cases h : 1 ≤ c ∧ c ≤ 6
 ·rcases in_class h with rfl | rfl | rfl | rfl | rfl | rfl
  ·exact p1
  ·exact p2
  ·exact p3
  ·exact p4
  ·exact p5
  ·exact p6
 ·rw [ref_Is_out h, inC, in_out h]
@[reducible] def r04_First.sg : List Shp := [.v (.int .i64), .v (.str)]
@[reducible] def r04_First.rs : Rs := .one (.v (.int .i64))
@[reducible] noncomputable def r04_First.code : Code := Tryz.f165.body.getD .skip
noncomputable def r04_First.C : Ctx := ⟨tab, [r04_Is.c], [], ⟨[(2, [0, 1, 5], 0)], []⟩⟩
noncomputable def r04_First.l0 (n : Nat) (v0 : Int) (v1 : ByteArray) (v2 : Int) : Option Int := run r04_First.C (finOf r04_First.C Tryz.f165 r04_First.rs) n (todoAt 2 r04_First.code) ⟨.int .i64 v0 :: .str v1 :: zJ :: zJ :: zJ :: .int .i64 v2 :: zJ :: zJ :: zJ :: zJ :: zJ :: zK [], [], []⟩
theorem r04_First.l0_eq n v0 v1 v2 : r04_First.l0 (n + 1) v0 v1 v2 =
 (if v2 < (v1.size : Int) then ((bget v1 v2).bind fun b0 =>
 ((r04_Is.f (v0, (↑(UInt8.toNat b0) : Int))).bind fun b1 =>
 (if ¬b1 = true then (some v2)
 else (r04_First.l0 n v0 v1 (IntKind.wrap .i64 (v2 + 1))))))
 else (some (-1))) := by kernel_rfl
theorem r04_First.eq (n : Nat) (a0 : Int) (a1 : ByteArray) : call r04_First.C Tryz.f165 r04_First.code r04_First.sg r04_First.rs n (a0, a1) =
 (r04_First.l0 n a0 a1 0) := by kernel_rfl
def r04_First.f (x : Int × ByteArray) : Option Int := if x.2.size ≤ 1000000000000 then some (firstFrom (inC x.1) 0 (bl x.2)) else none
theorem r04_First (c : Int) (l : List UInt8) (hl : l.length ≤ 1000000000000) : r04_First.f (c, sb l) = some (firstFrom (inC c) 0 l) := by
 unfold r04_First.f
 rw [if_pos (by rw [size_sb]; exact hl), bl_sb]
theorem r04_First_l (c : Int) (l : List UInt8) (hl : l.length ≤ 1000000000000) : ∀ (m : List UInt8) (k i : Nat), l.drop i = m → m.length < k → r04_First.l0 k c (sb l) (i : Int) = some (firstFrom (inC c) i m)
 | [], k, i, hd, hk => by
  obtain ⟨k, rfl⟩ : ∃ m, k = m + 1 := ⟨k - 1, by omega⟩
  have := dropn hd
  rw [r04_First.l0_eq, if_neg (by rw [size_sb]; omega)]; rfl
 | a :: m, k, i, hd, hk => by
  obtain ⟨k, rfl⟩ : ∃ m, k = m + 1 := ⟨k - 1, by omega⟩
  obtain ⟨h1, h2, h3, -⟩ := dropc hd
  have hk' : m.length < k := by simp at hk; omega
  rw [r04_First.l0_eq, if_pos (by rw [size_sb]; omega), bget_drop hd, Option.bind_some, r04_Is, Option.bind_some, wrap_succ (by omega), r04_First_l c l hl m k (i + 1) h2 hk', firstFrom]
  by_cases hx : inC c a = true
  ·rw [if_neg (not_not_intro hx), if_pos hx]
  ·rw [if_pos hx, if_neg hx]
noncomputable def r04_First.c : Con := ⟨165, r04_First.sg, r04_First.rs, r04_First.f⟩
theorem r04_First.con : ConOk Tryz.prog r04_First.c := walked (C := r04_First.C) rfl (by kernel_rfl) (by kernel_rfl) (by kernel_rfl) rfl ⟨r04_Is.con, trivial⟩ fun ⟨c, s⟩ y h => by
 obtain ⟨l, rfl⟩ := ex_sb s
 have h : r04_First.f (c, sb l) = some y := h
 unfold r04_First.f at h
 split at h
 ·rename_i hc
  rw [size_sb] at hc
  exact ⟨l.length + 1, by rw [r04_First.eq]; exact (r04_First_l c l hc l _ 0 rfl (by omega)).trans h⟩
 ·cases h
@[reducible] def r08_First.sg : List Shp := [.v (.int .u8)]
@[reducible] def r08_First.rs : Rs := .one (.v (.int .i64))
@[reducible] noncomputable def r08_First.code : Code := Tryz.f195.body.getD .skip
noncomputable def r08_First.C : Ctx := ⟨tab, [], [], ⟨[], []⟩⟩
theorem r08_First.eq (n : Nat) (a0 : Int) : call r08_First.C Tryz.f195 r08_First.code r08_First.sg r08_First.rs n a0 =
 (if a0 = 0 then (some 0)
 else (if Int.tmod (IntKind.wrap .u8 (Int.tdiv a0 32)) 2 = 1 then (some 0)
 else (if Int.tmod a0 32 = 31 then (some 2)
 else (some 1)))) := by kernel_rfl
noncomputable def r08_First.f : El (sgTy r08_First.sg) → Option (El r08_First.rs.ty) := fun x => match x with
 | a0 =>
 (if a0 = 0 then (some 0)
 else (if Int.tmod (IntKind.wrap IntKind.u8 (Int.tdiv a0 32)) 2 = 1 then (some 0)
  else (if Int.tmod a0 32 = 31 then (some 2)
  else (some 1))))
noncomputable def r08_First.c : Con := ⟨195, r08_First.sg, r08_First.rs, r08_First.f⟩
theorem r08_First.con : ConOk Tryz.prog r08_First.c := walked (C := r08_First.C) rfl (by kernel_rfl) (by kernel_rfl) (by kernel_rfl) rfl trivial fun a0 y h => ⟨0, (r08_First.eq 0 a0).trans h⟩
theorem ref_first256 : ∀ n : Fin 256, r08_First.f ((n.val : Nat) : Int) = some (tagKind n.val) := by decide +kernel
@[reducible] def r08_Get.sg : List Shp := [.v (.str), .v (.int .i64)]
@[reducible] def r08_Get.rs : Rs := .tup [.v (.int .i64), .v (.int .i64), .v (.int .i64)]
@[reducible] noncomputable def r08_Get.code : Code := Tryz.f184.body.getD .skip
noncomputable def r08_Get.C : Ctx := ⟨tab, [r08_First.c], [], ⟨[], []⟩⟩
theorem r08_Get.eq (n : Nat) (a0 : ByteArray) (a1 : Int) : call r08_Get.C Tryz.f184 r08_Get.code r08_Get.sg r08_Get.rs n (a0, a1) =
 (if a1 < 0 then (some ((0, 0, 1)))
 else (if a1 > (a0.size : Int) then (some ((0, 0, 1)))
 else (if a1 = (a0.size : Int) then (some ((0, 0, 2)))
 else ((bget a0 a1).bind fun b0 =>
 ((r08_First.f (↑(UInt8.toNat b0) : Int)).bind fun b1 =>
 (if b1 = 0 then (some ((0, 0, 13)))
 else (if b1 = 1 then ((bget a0 a1).bind fun b2 =>
 (some ((IntKind.wrap .i64 (↑(UInt8.toNat b2) : Int), IntKind.wrap .i64 (a1 + 1), 0))))
 else (if IntKind.wrap .i64 ((a0.size : Int) - a1) < 2 then (some ((0, 0, 2)))
 else ((bget a0 (IntKind.wrap .i64 (a1 + 1))).bind fun b3 =>
 (if (↑(UInt8.toNat b3) : Int) = 0 then (some ((0, 0, 13)))
 else ((bget a0 (IntKind.wrap .i64 (a1 + 1))).bind fun b4 =>
 (if (↑(UInt8.toNat b4) : Int) > 127 then (some ((0, 0, 13)))
 else ((bget a0 a1).bind fun b5 =>
 ((bget a0 (IntKind.wrap .i64 (a1 + 1))).bind fun b6 =>
 (some ((IntKind.wrap .i64 (IntKind.wrap .i64 (256 * IntKind.wrap .i64 (↑(UInt8.toNat b5) : Int)) + IntKind.wrap .i64 (↑(UInt8.toNat b6) : Int)), IntKind.wrap .i64 (a1 + 2), 0))))))))))))))))) := by kernel_rfl
noncomputable def r08_Get.f : El (sgTy r08_Get.sg) → Option (El r08_Get.rs.ty) := fun x => match x with
 | (a0, a1) =>
 (if a1 < 0 then (some ((0, 0, 1)))
 else (if a1 > (↑(ByteArray.size a0) : Int) then (some ((0, 0, 1)))
  else (if a1 = (↑(ByteArray.size a0) : Int) then (some ((0, 0, 2)))
  else ((bget a0 a1).bind fun b0 =>
   ((r08_First.f (↑(UInt8.toNat b0) : Int)).bind fun b1 =>
   (if b1 = 0 then (some ((0, 0, 13)))
   else (if b1 = 1 then ((bget a0 a1).bind fun b2 =>
    (some ((IntKind.wrap IntKind.i64 (↑(UInt8.toNat b2) : Int), IntKind.wrap IntKind.i64 (a1 + 1), 0))))
   else (if IntKind.wrap IntKind.i64 ((↑(ByteArray.size a0) : Int) - a1) < 2 then (some ((0, 0, 2)))
    else ((bget a0 (IntKind.wrap IntKind.i64 (a1 + 1))).bind fun b3 =>
    (if (↑(UInt8.toNat b3) : Int) = 0 then (some ((0, 0, 13)))
    else ((bget a0 (IntKind.wrap IntKind.i64 (a1 + 1))).bind fun b4 =>
     (if (↑(UInt8.toNat b4) : Int) > 127 then (some ((0, 0, 13)))
     else ((bget a0 a1).bind fun b5 =>
     ((bget a0 (IntKind.wrap IntKind.i64 (a1 + 1))).bind fun b6 =>
     (some ((IntKind.wrap IntKind.i64 (IntKind.wrap IntKind.i64 (256 * IntKind.wrap IntKind.i64 (↑(UInt8.toNat b5) : Int)) + IntKind.wrap IntKind.i64 (↑(UInt8.toNat b6) : Int)), IntKind.wrap IntKind.i64 (a1 + 2), 0)))))))))))))))))
noncomputable def r08_Get.c : Con := ⟨184, r08_Get.sg, r08_Get.rs, r08_Get.f⟩
theorem r08_Get.con : ConOk Tryz.prog r08_Get.c := walked (C := r08_Get.C) rfl (by kernel_rfl) (by kernel_rfl) (by kernel_rfl) rfl ⟨r08_First.con, trivial⟩ fun ⟨a0, a1⟩ y h => ⟨0, (r08_Get.eq 0 a0 a1).trans h⟩
theorem r08_Get (l : List UInt8) (hl : l.length ≤ 1000000000000) (i : Nat) (hi : i ≤ l.length) : r08_Get.f (sb l, (i : Int)) = some (tagR i (l.drop i)) := by
 have b1 : ¬ (i : Int) < 0 := by omega
 have b2 : ¬ (i : Int) > (l.length : Int) := by omega
 simp only [r08_Get.f, wrap_w]
 rw [if_neg b1, size_sb, if_neg b2]
 cases hd : l.drop i with
 | nil =>
  have h : (i : Int) = (l.length : Int) := by have := congrArg List.length hd; rw [List.length_drop] at this; simp at this; omega
  rw [if_pos h]; rfl
 | cons a m =>
  have hlen := len_drop hd
  have b3 : ¬ (i : Int) = (l.length : Int) := by omega
  have f1 : r08_First.f (a.toNat : Int) = some (tagKind a.toNat) := ref_first256 ⟨a.toNat, u8_lt a⟩
  have g0 : wrap64 ((l.length : Int) - (i : Int)) = ((m.length + 1 : Nat) : Int) := by rw [show (l.length : Int) - (i : Int) = ((m.length + 1 : Nat) : Int) by omega]; exact wrap64_nat (by omega)
  have g1 : wrap64 ((i : Int) + 1) = ((i + 1 : Nat) : Int) := wrap64_succ (by omega)
  have g2 : wrap64 ((i : Int) + 2) = ((i + 2 : Nat) : Int) := by rw [show (i : Int) + 2 = ((i + 2 : Nat) : Int) by omega]; exact wrap64_nat (by omega)
  have hdrop : ∀ b m', m = b :: m' → l.drop (i + 1) = b :: m' := by intro b m' e; obtain ⟨-, -, h⟩ := drop_cons hd; rw [h, e]
  rw [if_neg b3, bget_drop hd, Option.bind_some, f1, Option.bind_some, g0, g1, g2]
  clear f1
  rcases tagKind_cases a.toNat with h0 | h1 | h2
  ·rw [tagR_cons, if_pos h0, if_pos h0]
  ·have hne : tagKind a.toNat ≠ 0 := by rw [h1]; decide
   rw [tagR_cons, if_neg hne, if_pos h1, if_neg hne, if_pos h1, Option.bind_some, wrap_byte]
  ·have hne : tagKind a.toNat ≠ 0 := by rw [h2]; decide
   have hn1 : tagKind a.toNat ≠ 1 := by rw [h2]; decide
   rw [tagR_cons, if_neg hne, if_neg hn1, if_neg hne, if_neg hn1]
   cases m with
   | nil => rfl
   | cons b m' =>
    have hd' := hdrop b m' rfl
    have hlen' := len_drop hd'
    have b6 : ¬ (((b :: m').length + 1 : Nat) : Int) < 2 := by simp; omega
    rw [if_neg b6, bget_drop hd', Option.bind_some, Option.bind_some, Option.bind_some, Option.bind_some, wrap_byte, wrap_byte, wrap_256byte]
    by_cases hb : 1 ≤ b.toNat ∧ b.toNat ≤ 127
    ·have q1 : ¬ (b.toNat : Int) = 0 := by omega
     have q2 : ¬ (b.toNat : Int) > 127 := by omega
     rw [if_neg q1, if_neg q2]; simp only [hb, and_self, if_true]
    ·simp only [hb, if_false]
     by_cases q1 : (b.toNat : Int) = 0
     ·rw [if_pos q1]
     ·rw [if_neg q1, if_pos (by omega)]
@[reducible] def r09_Get.sg : List Shp := [.v (.str), .v (.int .i64)]
@[reducible] def r09_Get.rs : Rs := .tup [.v (.int .i64), .v (.int .i64), .v (.int .i64)]
@[reducible] noncomputable def r09_Get.code : Code := Tryz.f185.body.getD .skip
noncomputable def r09_Get.C : Ctx := ⟨tab, [], [], ⟨[], []⟩⟩
theorem r09_Get.eq (n : Nat) (a0 : ByteArray) (a1 : Int) : call r09_Get.C Tryz.f185 r09_Get.code r09_Get.sg r09_Get.rs n (a0, a1) =
 (if a1 < 0 then (some ((0, 0, 1)))
 else (if a1 > (a0.size : Int) then (some ((0, 0, 1)))
 else (if a1 = (a0.size : Int) then (some ((0, 0, 2)))
 else ((bget a0 a1).bind fun b0 =>
 (if IntKind.wrap .i64 (↑(UInt8.toNat b0) : Int) < 128 then (some ((IntKind.wrap .i64 (↑(UInt8.toNat b0) : Int), IntKind.wrap .i64 (a1 + 1), 0)))
 else (if ¬IntKind.wrap .i64 (↑(UInt8.toNat b0) : Int) = 129 then (if ¬IntKind.wrap .i64 (↑(UInt8.toNat b0) : Int) = 130 then (some ((0, 0, 14)))
 else (if IntKind.wrap .i64 ((a0.size : Int) - a1) < IntKind.wrap .i64 (IntKind.wrap .i64 (↑(UInt8.toNat b0) : Int) - 127) then (some ((0, 0, 2)))
 else (if IntKind.wrap .i64 (↑(UInt8.toNat b0) : Int) = 129 then ((bget a0 (IntKind.wrap .i64 (a1 + 1))).bind fun b1 =>
 (if (↑(UInt8.toNat b1) : Int) < 128 then (some ((0, 0, 14)))
 else ((bget a0 (IntKind.wrap .i64 (a1 + 1))).bind fun b2 =>
 (some ((IntKind.wrap .i64 (↑(UInt8.toNat b2) : Int), IntKind.wrap .i64 (a1 + 2), 0))))))
 else ((bget a0 (IntKind.wrap .i64 (a1 + 1))).bind fun b3 =>
 (if (↑(UInt8.toNat b3) : Int) = 0 then (some ((0, 0, 14)))
 else ((bget a0 (IntKind.wrap .i64 (a1 + 1))).bind fun b4 =>
 ((bget a0 (IntKind.wrap .i64 (a1 + 2))).bind fun b5 =>
 (some ((IntKind.wrap .i64 (IntKind.wrap .i64 (256 * IntKind.wrap .i64 (↑(UInt8.toNat b4) : Int)) + IntKind.wrap .i64 (↑(UInt8.toNat b5) : Int)), IntKind.wrap .i64 (a1 + 3), 0))))))))))
 else (if IntKind.wrap .i64 ((a0.size : Int) - a1) < IntKind.wrap .i64 (IntKind.wrap .i64 (↑(UInt8.toNat b0) : Int) - 127) then (some ((0, 0, 2)))
 else (if IntKind.wrap .i64 (↑(UInt8.toNat b0) : Int) = 129 then ((bget a0 (IntKind.wrap .i64 (a1 + 1))).bind fun b6 =>
 (if (↑(UInt8.toNat b6) : Int) < 128 then (some ((0, 0, 14)))
 else ((bget a0 (IntKind.wrap .i64 (a1 + 1))).bind fun b7 =>
 (some ((IntKind.wrap .i64 (↑(UInt8.toNat b7) : Int), IntKind.wrap .i64 (a1 + 2), 0))))))
 else ((bget a0 (IntKind.wrap .i64 (a1 + 1))).bind fun b8 =>
 (if (↑(UInt8.toNat b8) : Int) = 0 then (some ((0, 0, 14)))
 else ((bget a0 (IntKind.wrap .i64 (a1 + 1))).bind fun b9 =>
 ((bget a0 (IntKind.wrap .i64 (a1 + 2))).bind fun b10 =>
 (some ((IntKind.wrap .i64 (IntKind.wrap .i64 (256 * IntKind.wrap .i64 (↑(UInt8.toNat b9) : Int)) + IntKind.wrap .i64 (↑(UInt8.toNat b10) : Int)), IntKind.wrap .i64 (a1 + 3), 0))))))))))))))) := by kernel_rfl
noncomputable def r09_Get.f : El (sgTy r09_Get.sg) → Option (El r09_Get.rs.ty) := fun x => match x with
 | (a0, a1) =>
 (if a1 < 0 then (some ((0, 0, 1)))
 else (if a1 > (↑(ByteArray.size a0) : Int) then (some ((0, 0, 1)))
  else (if a1 = (↑(ByteArray.size a0) : Int) then (some ((0, 0, 2)))
  else ((bget a0 a1).bind fun b0 =>
   (if IntKind.wrap IntKind.i64 (↑(UInt8.toNat b0) : Int) < 128 then (some ((IntKind.wrap IntKind.i64 (↑(UInt8.toNat b0) : Int), IntKind.wrap IntKind.i64 (a1 + 1), 0)))
   else (if ¬IntKind.wrap IntKind.i64 (↑(UInt8.toNat b0) : Int) = 129 then (if ¬IntKind.wrap IntKind.i64 (↑(UInt8.toNat b0) : Int) = 130 then (some ((0, 0, 14)))
    else (if IntKind.wrap IntKind.i64 ((↑(ByteArray.size a0) : Int) - a1) < IntKind.wrap IntKind.i64 (IntKind.wrap IntKind.i64 (↑(UInt8.toNat b0) : Int) - 127) then (some ((0, 0, 2)))
    else (if IntKind.wrap IntKind.i64 (↑(UInt8.toNat b0) : Int) = 129 then ((bget a0 (IntKind.wrap IntKind.i64 (a1 + 1))).bind fun b1 =>
     (if (↑(UInt8.toNat b1) : Int) < 128 then (some ((0, 0, 14)))
     else ((bget a0 (IntKind.wrap IntKind.i64 (a1 + 1))).bind fun b2 =>
      (some ((IntKind.wrap IntKind.i64 (↑(UInt8.toNat b2) : Int), IntKind.wrap IntKind.i64 (a1 + 2), 0))))))
     else ((bget a0 (IntKind.wrap IntKind.i64 (a1 + 1))).bind fun b3 =>
     (if (↑(UInt8.toNat b3) : Int) = 0 then (some ((0, 0, 14)))
     else ((bget a0 (IntKind.wrap IntKind.i64 (a1 + 1))).bind fun b4 =>
      ((bget a0 (IntKind.wrap IntKind.i64 (a1 + 2))).bind fun b5 =>
      (some ((IntKind.wrap IntKind.i64 (IntKind.wrap IntKind.i64 (256 * IntKind.wrap IntKind.i64 (↑(UInt8.toNat b4) : Int)) + IntKind.wrap IntKind.i64 (↑(UInt8.toNat b5) : Int)), IntKind.wrap IntKind.i64 (a1 + 3), 0))))))))))
   else (if IntKind.wrap IntKind.i64 ((↑(ByteArray.size a0) : Int) - a1) < IntKind.wrap IntKind.i64 (IntKind.wrap IntKind.i64 (↑(UInt8.toNat b0) : Int) - 127) then (some ((0, 0, 2)))
    else (if IntKind.wrap IntKind.i64 (↑(UInt8.toNat b0) : Int) = 129 then ((bget a0 (IntKind.wrap IntKind.i64 (a1 + 1))).bind fun b6 =>
     (if (↑(UInt8.toNat b6) : Int) < 128 then (some ((0, 0, 14)))
     else ((bget a0 (IntKind.wrap IntKind.i64 (a1 + 1))).bind fun b7 =>
     (some ((IntKind.wrap IntKind.i64 (↑(UInt8.toNat b7) : Int), IntKind.wrap IntKind.i64 (a1 + 2), 0))))))
    else ((bget a0 (IntKind.wrap IntKind.i64 (a1 + 1))).bind fun b8 =>
     (if (↑(UInt8.toNat b8) : Int) = 0 then (some ((0, 0, 14)))
     else ((bget a0 (IntKind.wrap IntKind.i64 (a1 + 1))).bind fun b9 =>
     ((bget a0 (IntKind.wrap IntKind.i64 (a1 + 2))).bind fun b10 =>
     (some ((IntKind.wrap IntKind.i64 (IntKind.wrap IntKind.i64 (256 * IntKind.wrap IntKind.i64 (↑(UInt8.toNat b9) : Int)) + IntKind.wrap IntKind.i64 (↑(UInt8.toNat b10) : Int)), IntKind.wrap IntKind.i64 (a1 + 3), 0)))))))))))))))
noncomputable def r09_Get.c : Con := ⟨185, r09_Get.sg, r09_Get.rs, r09_Get.f⟩
theorem r09_Get.con : ConOk Tryz.prog r09_Get.c := walked (C := r09_Get.C) rfl (by kernel_rfl) (by kernel_rfl) (by kernel_rfl) rfl trivial fun ⟨a0, a1⟩ y h => ⟨0, (r09_Get.eq 0 a0 a1).trans h⟩
theorem r09_Get (l : List UInt8) (hl : l.length ≤ 1000000000000) (i : Nat) (hi : i ≤ l.length) : r09_Get.f (sb l, (i : Int)) = some (berR i (l.drop i)) := by
 have b1 : ¬ (i : Int) < 0 := by omega
 have b2 : ¬ (i : Int) > (l.length : Int) := by omega
 simp only [r09_Get.f, wrap_w]
 rw [if_neg b1, size_sb, if_neg b2]
 cases hd : l.drop i with
 | nil =>
  have h : (i : Int) = (l.length : Int) := by have := congrArg List.length hd; rw [List.length_drop] at this; simp at this; omega
  rw [if_pos h]; rfl
 | cons a m =>
  have hlen := len_drop hd
  have ha := u8_lt a
  have b3 : ¬ (i : Int) = (l.length : Int) := by omega
  have g1 : wrap64 ((i : Int) + 1) = ((i + 1 : Nat) : Int) := wrap64_succ (by omega)
  have g0 : wrap64 ((l.length : Int) - (i : Int)) = ((m.length + 1 : Nat) : Int) := by rw [show (l.length : Int) - (i : Int) = ((m.length + 1 : Nat) : Int) by omega]; exact wrap64_nat (by omega)
  have g2 : wrap64 ((i : Int) + 2) = ((i + 2 : Nat) : Int) := by rw [show (i : Int) + 2 = ((i + 2 : Nat) : Int) by omega]; exact wrap64_nat (by omega)
  have g3 : wrap64 ((i : Int) + 3) = ((i + 3 : Nat) : Int) := by rw [show (i : Int) + 3 = ((i + 3 : Nat) : Int) by omega]; exact wrap64_nat (by omega)
  have hdrop : ∀ b m', m = b :: m' → l.drop (i + 1) = b :: m' := by intro b m' e; obtain ⟨-, -, h⟩ := drop_cons hd; rw [h, e]
  rw [if_neg b3, bget_drop hd, Option.bind_some, wrap_byte, g0, g1, g2, g3, berR]
  clear g0 g1 g2 g3
  by_cases h1 : a.toNat ≤ 127
  ·have q1 : (a.toNat : Int) < 128 := by omega
   rw [if_pos h1, if_pos q1]
  ·have q1 : ¬ (a.toNat : Int) < 128 := by omega
   rw [if_neg h1, if_neg q1]
   by_cases h4 : a.toNat = 129
   ·have q2 : (a.toNat : Int) = 129 := by omega
    have h2 : ¬ (a.toNat = 128 ∨ 130 < a.toNat) := by omega
    rw [if_neg h2, if_pos h4, if_neg (not_not_intro q2), h4, if_pos (show ((129 : Nat) : Int) = 129 from rfl)]
    by_cases h3 : m.length < 129 - 128
    ·have q4 : ((m.length + 1 : Nat) : Int) < wrap64 (((129 : Nat) : Int) - 127) := by rw [wr129]; omega
     rw [if_pos h3, if_pos q4]
    ·have q4 : ¬ ((m.length + 1 : Nat) : Int) < wrap64 (((129 : Nat) : Int) - 127) := by rw [wr129]; omega
     rw [if_neg h3, if_neg q4]
     cases m with
     | nil => simp at h3
     | cons b m' =>
      have hd' := hdrop b m' rfl
      have hlen' := len_drop hd'
      rw [bget_drop hd', Option.bind_some, Option.bind_some, wrap_byte]
      by_cases h5 : b.toNat ≤ 127
      ·rw [if_pos (show (b.toNat : Int) < 128 by omega)]; simp [h5]
      ·rw [if_neg (show ¬ (b.toNat : Int) < 128 by omega)]; simp [h5]
   ·have q2 : ¬ (a.toNat : Int) = 129 := by omega
    rw [if_pos q2]
    by_cases h5 : a.toNat = 130
    ·have h2 : ¬ (a.toNat = 128 ∨ 130 < a.toNat) := by omega
     have q3 : (a.toNat : Int) = 130 := by omega
     rw [if_neg h2, if_neg h4, if_neg (not_not_intro q3), h5, if_neg (show ¬ ((130 : Nat) : Int) = 129 by decide)]
     by_cases h3 : m.length < 130 - 128
     ·have q4 : ((m.length + 1 : Nat) : Int) < wrap64 (((130 : Nat) : Int) - 127) := by rw [wr130]; omega
      rw [if_pos h3, if_pos q4]
     ·have q4 : ¬ ((m.length + 1 : Nat) : Int) < wrap64 (((130 : Nat) : Int) - 127) := by rw [wr130]; omega
      rw [if_neg h3, if_neg q4]
      cases m with
      | nil => simp at h3
      | cons b m' =>
       cases m' with
       | nil => simp at h3
       | cons c m'' =>
        have hd' := hdrop b _ rfl
        have hlen' := len_drop hd'
        have hd'' : l.drop (i + 2) = c :: m'' := by obtain ⟨-, -, h⟩ := drop_cons hd'; exact h
        rw [bget_drop hd', Option.bind_some, Option.bind_some, bget_drop hd'', Option.bind_some, wrap_byte, wrap_byte, wrap_256byte]
        by_cases h6 : b.toNat = 0
        ·rw [if_pos (show (b.toNat : Int) = 0 by omega)]; simp [h6]
        ·rw [if_neg (show ¬ (b.toNat : Int) = 0 by omega)]; simp [h6]
    ·have h2 : a.toNat = 128 ∨ 130 < a.toNat := by omega
     have q3 : ¬ (a.toNat : Int) = 130 := by omega
     rw [if_pos h2, if_pos q3]
@[reducible] def r10_has.sg : List Shp := [.v (.sl zdE), .v (.int .i64), .v (.int .i64)]
@[reducible] def r10_has.rs : Rs := .one (.v (.bool))
@[reducible] noncomputable def r10_has.code : Code := Tryz.f186.body.getD .skip
noncomputable def r10_has.C : Ctx := ⟨tab, [], [], ⟨[(2, [0, 1, 2, 7], 0)], []⟩⟩
noncomputable def r10_has.l0 (n : Nat) (v0 : List zE) (v1 v2 v3 : Int) : Option Bool := run r10_has.C (finOf r10_has.C Tryz.f186 r10_has.rs) n (todoAt 2 r10_has.code) ⟨.sl none zdE v0 :: .int .i64 v1 :: .int .i64 v2 :: zJ :: zJ :: zJ :: zJ :: .int .i64 v3 :: zJ :: zJ :: zJ :: zJ :: zK [], [], []⟩
theorem r10_has.l0_eq n v0 v1 v2 v3 : r10_has.l0 (n + 1) v0 v1 v2 v3 =
 (if v3 < v1 then ((lget v0 v3).bind fun b0 =>
 (if b0.1 = v2 then (some true)
 else (r10_has.l0 n v0 v1 v2 (IntKind.wrap .i64 (v3 + 1)))))
 else (some false)) := by kernel_rfl
theorem r10_has.eq (n : Nat) (a0 : List zE) (a1 a2 : Int) : call r10_has.C Tryz.f186 r10_has.code r10_has.sg r10_has.rs n (a0, (a1, a2)) =
 (r10_has.l0 n a0 a1 a2 0) := by kernel_rfl
def r10_has.f (x : List V × Int × Int) : Option Bool := if x.2.1 = (x.1.length : Int) ∧ x.1.length ≤ 1000000000000 then some (decide (x.2.2 ∈ x.1.map Prod.fst)) else none
theorem r10_has (l : List V) (hl : l.length ≤ 1000000000000) (n : Int) : r10_has.f (l, (l.length : Int), n) = some (decide (n ∈ l.map Prod.fst)) := if_pos ⟨rfl, hl⟩
theorem r10_has_l (l : List V) (hl : l.length ≤ 1000000000000) (n : Int) : ∀ (m : List V) (k i : Nat), l.drop i = m → m.length < k → r10_has.l0 k l (l.length : Int) n (i : Int) = some (decide (n ∈ m.map Prod.fst))
 | [], k, i, hd, hk => by
  obtain ⟨k, rfl⟩ : ∃ m, k = m + 1 := ⟨k - 1, by omega⟩
  have := dropn hd
  rw [r10_has.l0_eq, if_neg (by omega)]; simp
 | v :: m, k, i, hd, hk => by
  obtain ⟨k, rfl⟩ : ∃ m, k = m + 1 := ⟨k - 1, by omega⟩
  obtain ⟨h1, h2, h3, h4⟩ := dropc hd
  have hk' : m.length < k := by simp at hk; omega
  rw [r10_has.l0_eq, if_pos (by omega), h4, Option.bind_some, wrap_succ (by omega), r10_has_l l hl n m k (i + 1) h2 hk', List.map_cons]
  by_cases c : v.1 = n
  ·rw [if_pos c, decide_eq_true (by rw [c]; exact List.mem_cons_self ..)]
  ·rw [if_neg c]
   congr 1
   exact decide_eq_decide.2 (by rw [List.mem_cons]; exact ⟨.inr, fun h => h.elim (fun e => absurd e.symm c) id⟩)
noncomputable def r10_has.c : Con := ⟨186, r10_has.sg, r10_has.rs, r10_has.f⟩
theorem r10_has.con : ConOk Tryz.prog r10_has.c := walked (C := r10_has.C) rfl (by kernel_rfl) (by kernel_rfl) (by kernel_rfl) rfl trivial fun ⟨l, q, n⟩ y h => by
 have h : r10_has.f (l, q, n) = some y := h
 unfold r10_has.f at h
 split at h
 ·rename_i hc
  dsimp only at hc h
  obtain ⟨rfl, hc⟩ := hc
  exact ⟨l.length + 1, by rw [r10_has.eq]; exact (r10_has_l l hc n l _ 0 rfl (by omega)).trans h⟩
 ·cases h
@[reducible] def r10_Get.sg : List Shp := [.v (.str)]
@[reducible] def r10_Get.rs : Rs := .tup [.v (.sl zdE), .v (.int .i64), .v (.int .i64)]
@[reducible] noncomputable def r10_Get.code : Code := Tryz.f166.body.getD .skip
noncomputable def r10_Get.C : Ctx := ⟨tab, [r08_Get.c, r09_Get.c, r10_has.c], [], ⟨[(3, [0, 5, 6], 0)], []⟩⟩
noncomputable def r10_Get.l0 (n : Nat) (v0 : ByteArray) (v1 : List zE) (v2 : Int) : Option ((List ((Int × ByteArray)) × (Int × Int))) := run r10_Get.C (finOf r10_Get.C Tryz.f166 r10_Get.rs) n (todoAt 3 r10_Get.code) ⟨.str v0 :: zJ :: zJ :: zJ :: zJ :: .sl (some 0) zdE v1 :: .int .i64 v2 :: zJ :: zJ :: zJ :: zJ :: zJ :: zK (zK (zK (zK (zK (zK (zK [])))))), [], [true]⟩
theorem r10_Get.l0_eq n v0 v1 v2 : r10_Get.l0 (n + 1) v0 v1 v2 =
 (if v2 < (v0.size : Int) then ((r08_Get.f (v0, v2)).bind fun b0 =>
 (if ¬b0.2.2 = 0 then (some (([], b0.2.2, v2)))
 else ((r09_Get.f (v0, b0.2.1)).bind fun b1 =>
 (if ¬b1.2.2 = 0 then (some (([], b1.2.2, b0.2.1)))
 else (if IntKind.wrap .i64 ((v0.size : Int) - b1.2.1) < b1.1 then (some (([], 2, (v0.size : Int))))
 else ((r10_has.f (v1, (v1.length : Int), b0.1)).bind fun b2 =>
 (if b2 = true then (some (([], 10, v2)))
 else ((ssub v0 b1.2.1 (IntKind.wrap .i64 (b1.2.1 + b1.1))).bind fun b3 =>
 ((lcat 24 v1 [(b0.1, b3)]).bind fun b4 =>
 (r10_Get.l0 n v0 b4 (IntKind.wrap .i64 (b1.2.1 + b1.1))))))))))))
 else (some ((v1, 0, 0)))) := by kernel_rfl
theorem r10_Get.eq (n : Nat) (a0 : ByteArray) : call r10_Get.C Tryz.f166 r10_Get.code r10_Get.sg r10_Get.rs n a0 =
 (r10_Get.l0 n a0 [] 0) := by kernel_rfl
def r10_Get.f (s : ByteArray) : Option (List V × Int × Int) := if s.size ≤ 1000000000000 then some (tlvG (s.size + 1) (bl s) 0 []) else none
theorem r10_Get (l : List UInt8) (hl : l.length ≤ 1000000000000) : r10_Get.f (sb l) = some (tlvG (l.length + 1) l 0 []) := by
 unfold r10_Get.f
 rw [if_pos (by rw [size_sb]; exact hl), size_sb, bl_sb]
theorem r10_Get_l (l : List UInt8) (hl : l.length ≤ 1000000000000) : ∀ (k i : Nat) (o : List V), i ≤ l.length → o.length ≤ i → l.length < k + i →
  r10_Get.l0 k (sb l) o (i : Int) = some (tlvG k l i o)
 | 0, i, o, hi, ho, hk => absurd hk (by omega)
 | k + 1, i, o, hi, ho, hk => by
  rw [r10_Get.l0_eq, size_sb]
  by_cases c : i < l.length
  ·rw [if_pos (by omega), r08_Get l hl i hi, Option.bind_some]
   rcases tlvG_step (k := k) (o := o) hl c with ⟨e, he, h1, h2⟩ | ⟨t, n, e, h1, hn, he, h2, h3⟩ | ⟨t, n, z, m, ht, h1, hn, hin, h2, hnm, hm, hz, h3⟩
   ·rw [h1, if_pos he, h2]
   ·rw [h1, if_neg (by simp)]
    dsimp only
    rw [r09_Get l hl n hn, Option.bind_some, h2, if_pos he, h3]
   ·rw [h1, if_neg (by simp)]
    dsimp only
    rw [r09_Get l hl n hn, Option.bind_some, h2, if_neg (by simp), h3]
    dsimp only
    rw [wrap_id (x := (l.length : Int) - (m : Int)) (by omega) (by omega), show IntKind.wrap .i64 ((m : Int) + (z : Int)) = ((m + z : Nat) : Int) by rw [wrap_id (by omega) (by omega)]; omega]
    by_cases c3 : l.length < m + z
    ·rw [if_pos (by omega), if_pos c3]
    ·rw [if_neg (by omega), if_neg c3, r10_has o (by omega), Option.bind_some]
     by_cases c4 : t ∈ o.map Prod.fst
     ·rw [if_pos (decide_eq_true c4), if_pos c4]
     ·rw [if_neg (by simpa using c4), if_neg c4, ssub_sb _ _ _ (by omega) (by omega), Option.bind_some, lcat_ok _ _ _ (by simp only [List.length_cons, List.length_nil]; omega), Option.bind_some]
      exact r10_Get_l l hl k (m + z) (o ++ [(t, sb ((l.take (m + z)).drop m))]) (by omega) (by rw [List.length_append]; simp only [List.length_cons, List.length_nil]; omega) (by omega)
  ·rw [if_neg (by omega), tlvG, if_neg c]
noncomputable def r10_Get.c : Con := ⟨166, r10_Get.sg, r10_Get.rs, r10_Get.f⟩
theorem r10_Get.con : ConOk Tryz.prog r10_Get.c := walked (C := r10_Get.C) rfl (by kernel_rfl) (by kernel_rfl) (by kernel_rfl) rfl ⟨r08_Get.con, r09_Get.con, r10_has.con, trivial⟩ fun s y h => by
 obtain ⟨l, rfl⟩ := ex_sb s
 have h : r10_Get.f (sb l) = some y := h
 unfold r10_Get.f at h
 split at h
 ·rename_i hc
  rw [size_sb] at hc
  rw [size_sb, bl_sb] at h
  exact ⟨l.length + 1, by rw [r10_Get.eq]; exact (r10_Get_l l hc _ 0 [] (Nat.zero_le _) (Nat.le_refl _) (by omega)).trans h⟩
 ·cases h
@[reducible] def r11_Check.sg : List Shp := [.a zd5]
@[reducible] def r11_Check.rs : Rs := .one (.v (.int .i64))
@[reducible] noncomputable def r11_Check.code : Code := Tryz.f98.body.getD .skip
noncomputable def r11_Check.C : Ctx := ⟨tab, [], [], ⟨[], [(1, [(11, .bool)]), (3, [(19, .bool)]), (5, [(27, .bool)]), (10, [(58, .bool)]), (12, [(66, .bool)])]⟩⟩
theorem r11_Check.eq (n : Nat) (a0 a1 a2 a3 a4 : Int) : call r11_Check.C Tryz.f98 r11_Check.code r11_Check.sg r11_Check.rs n (a0, (a1, (a2, (a3, a4)))) =
 ((((if a0 < 2 then (some true)
 else (some (decide (a0 > 128)))) : Option Bool)).bind fun b0 =>
 (if b0 = true then (some 1)
 else ((((if a1 < 1 then (some true)
 else (some (decide (a1 > 6)))) : Option Bool)).bind fun b1 =>
 (if b1 = true then (some 6)
 else ((((if a2 < 1 then (some true)
 else (some (decide (a2 > 3)))) : Option Bool)).bind fun b2 =>
 (if b2 = true then (some 3)
 else (if a2 = 2 then ((((if a3 < 1 then (some true)
 else (if a4 < a3 then (some true)
 else (if a4 > 99 then (some true)
 else (if a2 = 1 then (some (decide ¬a3 = a4))
 else (some false))))) : Option Bool)).bind fun b3 =>
 (if b3 = true then (some 5)
 else ((((if a2 = 1 then (some (decide (a1 = 6)))
 else (some false)) : Option Bool)).bind fun b4 =>
 (if b4 = true then (some 13)
 else (some 0)))))
 else ((((if a3 < 1 then (some true)
 else (if a4 < a3 then (some true)
 else (if a4 > 999 then (some true)
 else (if a2 = 1 then (some (decide ¬a3 = a4))
 else (some false))))) : Option Bool)).bind fun b5 =>
 (if b5 = true then (some 5)
 else ((((if a2 = 1 then (some (decide (a1 = 6)))
 else (some false)) : Option Bool)).bind fun b6 =>
 (if b6 = true then (some 13)
 else (some 0)))))))))))) := by kernel_rfl
noncomputable def r11_Check.f : El (sgTy r11_Check.sg) → Option (El r11_Check.rs.ty) := fun x => match x with
 | (a0, (a1, (a2, (a3, a4)))) =>
 ((((if a0 < 2 then (some true)
  else (some (decide (a0 > 128)))) : Option Bool)).bind fun b0 =>
 (if b0 = true then (some 1)
 else ((((if a1 < 1 then (some true)
  else (some (decide (a1 > 6)))) : Option Bool)).bind fun b1 =>
  (if b1 = true then (some 6)
  else ((((if a2 < 1 then (some true)
   else (some (decide (a2 > 3)))) : Option Bool)).bind fun b2 =>
  (if b2 = true then (some 3)
  else (if a2 = 2 then ((((if a3 < 1 then (some true)
    else (if a4 < a3 then (some true)
    else (if a4 > 99 then (some true)
     else (if a2 = 1 then (some (decide ¬a3 = a4))
     else (some false))))) : Option Bool)).bind fun b3 =>
   (if b3 = true then (some 5)
   else ((((if a2 = 1 then (some (decide (a1 = 6)))
    else (some false)) : Option Bool)).bind fun b4 =>
    (if b4 = true then (some 13)
    else (some 0)))))
   else ((((if a3 < 1 then (some true)
    else (if a4 < a3 then (some true)
    else (if a4 > 999 then (some true)
     else (if a2 = 1 then (some (decide ¬a3 = a4))
     else (some false))))) : Option Bool)).bind fun b5 =>
   (if b5 = true then (some 5)
   else ((((if a2 = 1 then (some (decide (a1 = 6)))
    else (some false)) : Option Bool)).bind fun b6 =>
    (if b6 = true then (some 13)
    else (some 0))))))))))))
noncomputable def r11_Check.c : Con := ⟨98, r11_Check.sg, r11_Check.rs, r11_Check.f⟩
theorem r11_Check.con : ConOk Tryz.prog r11_Check.c := walked (C := r11_Check.C) rfl (by kernel_rfl) (by kernel_rfl) (by kernel_rfl) rfl trivial fun ⟨a0, ⟨a1, ⟨a2, ⟨a3, a4⟩⟩⟩⟩ y h => ⟨0, (r11_Check.eq 0 a0 a1 a2 a3 a4).trans h⟩
theorem or_two' (p q : Prop) [Decidable p] [Decidable q] : (if p then some true else some (decide q)) = some (decide (p ∨ q)) := by
 by_cases h : p <;> simp [h]
theorem tail_E (fo mi ma w : Int) : (if mi < 1 then some true else if ma < mi then some true else if ma > w then some true else if fo = 1 then some (decide ¬ mi = ma) else some false) = some (decide (mi < 1 ∨ ma < mi ∨ w < ma ∨ (fo = 1 ∧ mi ≠ ma))) := by
 by_cases h1 : mi < 1
 ·rw [if_pos h1, decide_eq_true (.inl h1)]
 by_cases h2 : ma < mi
 ·rw [if_neg h1, if_pos h2, decide_eq_true (.inr (.inl h2))]
 by_cases h3 : ma > w
 ·rw [if_neg h1, if_neg h2, if_pos h3, decide_eq_true (.inr (.inr (.inl h3)))]
 rw [if_neg h1, if_neg h2, if_neg h3]
 by_cases h4 : fo = 1
 ·rw [if_pos h4]
  congr 1
  exact decide_eq_decide.2 (by omega)
 ·rw [if_neg h4]
  congr 1
  exact (decide_eq_false (by omega)).symm
theorem tail_F (fo c : Int) : (if fo = 1 then some (decide (c = 6)) else some false) = some (decide (fo = 1 ∧ c = 6)) := by
 by_cases h : fo = 1 <;> simp [h]
theorem r11_Check (no c fo mi ma : Int) : r11_Check.f (no, c, fo, mi, ma) = some (specE no c fo mi ma) := by
 simp only [r11_Check.f, or_two', tail_E, tail_F, Option.bind_some, decide_eq_true_eq, specE]
 by_cases h1 : no < 2 ∨ no > 128
 ·rw [if_pos h1, if_pos (show no < 2 ∨ 128 < no from h1)]
 rw [if_neg h1, if_neg (show ¬ (no < 2 ∨ 128 < no) from h1)]
 by_cases h2 : c < 1 ∨ c > 6
 ·rw [if_pos h2, if_pos (show ¬ (1 ≤ c ∧ c ≤ 6) by omega)]
 rw [if_neg h2, if_neg (show ¬ ¬ (1 ≤ c ∧ c ≤ 6) by omega)]
 by_cases h3 : fo < 1 ∨ fo > 3
 ·rw [if_pos h3, if_pos (show ¬ (1 ≤ fo ∧ fo ≤ 3) by omega)]
 rw [if_neg h3, if_neg (show ¬ ¬ (1 ≤ fo ∧ fo ≤ 3) by omega)]
 by_cases h4 : fo = 2
 ·simp only [if_pos h4]
  by_cases h5 : mi < 1 ∨ ma < mi ∨ 99 < ma ∨ (fo = 1 ∧ mi ≠ ma)
  ·rw [if_pos h5, if_pos h5]
  ·rw [if_neg h5, if_neg h5]
   by_cases h6 : fo = 1 ∧ c = 6
   ·rw [if_pos h6, if_pos h6]
   ·rw [if_neg h6, if_neg h6]
 ·simp only [if_neg h4]
  by_cases h5 : mi < 1 ∨ ma < mi ∨ 999 < ma ∨ (fo = 1 ∧ mi ≠ ma)
  ·rw [if_pos h5, if_pos h5]
  ·rw [if_neg h5, if_neg h5]
   by_cases h6 : fo = 1 ∧ c = 6
   ·rw [if_pos h6, if_pos h6]
   ·rw [if_neg h6, if_neg h6]
@[reducible] def r11_Value.sg : List Shp := [.a zd5, .v (.str)]
@[reducible] def r11_Value.rs : Rs := .one (.v (.int .i64))
@[reducible] noncomputable def r11_Value.code : Code := Tryz.f142.body.getD .skip
noncomputable def r11_Value.C : Ctx := ⟨tab, [r11_Check.c, r04_First.c, r10_Get.c], [], ⟨[], []⟩⟩
theorem r11_Value.eq (n : Nat) (a0 a1 a2 a3 a4 : Int) (a5 : ByteArray) : call r11_Value.C Tryz.f142 r11_Value.code r11_Value.sg r11_Value.rs n ((a0, (a1, (a2, (a3, a4)))), a5) =
 ((r11_Check.f (a0, a1, a2, a3, a4)).bind fun b0 =>
 (if ¬b0 = 0 then (some 1)
 else (if (a5.size : Int) < a3 then (some 5)
 else (if (a5.size : Int) > a4 then (some 5)
 else ((r04_First.f (a1, a5)).bind fun b1 =>
 (if b1 ≥ 0 then (some 6)
 else (if a1 = 6 then ((r10_Get.f a5).bind fun b2 =>
 (if ¬b2.2.1 = 0 then (some 13)
 else (some 0)))
 else (some 0)))))))) := by kernel_rfl
noncomputable def r11_Value.f : El (sgTy r11_Value.sg) → Option (El r11_Value.rs.ty) := fun x => match x with
 | ((a0, (a1, (a2, (a3, a4)))), a5) =>
 ((r11_Check.f (a0, a1, a2, a3, a4)).bind fun b0 =>
 (if ¬b0 = 0 then (some 1)
 else (if (↑(ByteArray.size a5) : Int) < a3 then (some 5)
  else (if (↑(ByteArray.size a5) : Int) > a4 then (some 5)
  else ((r04_First.f (a1, a5)).bind fun b1 =>
   (if b1 ≥ 0 then (some 6)
   else (if a1 = 6 then ((r10_Get.f a5).bind fun b2 =>
    (if ¬Prod.fst (Prod.snd b2) = 0 then (some 13)
    else (some 0)))
   else (some 0))))))))
noncomputable def r11_Value.c : Con := ⟨142, r11_Value.sg, r11_Value.rs, r11_Value.f⟩
theorem r11_Value.con : ConOk Tryz.prog r11_Value.c := walked (C := r11_Value.C) rfl (by kernel_rfl) (by kernel_rfl) (by kernel_rfl) rfl ⟨r11_Check.con, r04_First.con, r10_Get.con, trivial⟩ fun ⟨⟨a0, ⟨a1, ⟨a2, ⟨a3, a4⟩⟩⟩⟩, a5⟩ y h => ⟨0, (r11_Value.eq 0 a0 a1 a2 a3 a4 a5).trans h⟩
theorem r11_Value (no c fo mi ma : Int) (l : List UInt8) (hl : l.length ≤ 1000000000000) : r11_Value.f ((no, c, fo, mi, ma), sb l) = some (specV no c fo mi ma l) := by
 have e : (tlvG (l.length + 1) l 0 []).2.1 = tlvErr l := rfl
 have g := first_ge (inC c) l 0
 simp only [r11_Value.f]
 rw [r11_Check, Option.bind_some, specV, size_sb]
 by_cases h1 : specE no c fo mi ma = 0
 ·rw [if_neg (not_not_intro h1), if_neg (not_not_intro h1)]
  by_cases h2 : (l.length : Int) < mi
  ·rw [if_pos h2, if_pos (.inl h2)]
  rw [if_neg h2]
  by_cases h3 : (l.length : Int) > ma
  ·rw [if_pos h3, if_pos (.inr h3)]
  rw [if_neg h3, if_neg (show ¬ ((l.length : Int) < mi ∨ ma < (l.length : Int)) by omega), r04_First c l hl, Option.bind_some]
  by_cases h4 : l.all (inC c) = false
  ·rw [if_pos (g.2 h4), if_pos h4]
  rw [if_neg (fun e => h4 (g.1 e)), if_neg h4]
  by_cases h5 : c = 6
  ·rw [if_pos h5, r10_Get l hl, Option.bind_some, e]
   by_cases h6 : tlvErr l = 0
   ·rw [if_neg (not_not_intro h6), if_neg (fun q => q.2 h6)]
   ·rw [if_pos h6, if_pos ⟨h5, h6⟩]
  ·rw [if_neg h5, if_neg (fun q => h5 q.1)]
 ·rw [if_pos h1, if_pos h1]
theorem r11_Check' (v : S5) : r11_Check.f v = some (specE v.1 v.2.1 v.2.2.1 v.2.2.2.1 v.2.2.2.2) := r11_Check v.1 v.2.1 v.2.2.1 v.2.2.2.1 v.2.2.2.2
@[reducible] def r13_Check.sg : List Shp := [.a zdS]
@[reducible] def r13_Check.rs : Rs := .tup [.v (.int .i64), .v (.int .i64)]
@[reducible] noncomputable def r13_Check.code : Code := Tryz.f54.body.getD .skip
noncomputable def r13_Check.C : Ctx := ⟨tab, [r11_Check.c], [], ⟨[(7, [1, 4, 5], 1)], []⟩⟩
noncomputable def r13_Check.l0 (n : Nat) (v0 v1 v2 v3 : Int) (v4 : List z5) : Option ((Int × Int)) := run r13_Check.C (finOf r13_Check.C Tryz.f54 r13_Check.rs) n (todoAt 7 r13_Check.code) ⟨zJ :: .ptr 0 0 :: zJ :: zJ :: .int .i64 v0 :: .int .i64 v1 :: zJ :: zK (zK (zK (zK (zK (zK []))))), [[.int .i64 v2, .int .i64 v3, .sl none zd5 v4]], []⟩
theorem r13_Check.l0_eq n v0 v1 v2 v3 v4 : r13_Check.l0 (n + 1) v0 v1 v2 v3 v4 =
 (if v1 < (v4.length : Int) then ((lget v4 v1).bind fun b0 =>
 ((r11_Check.f b0).bind fun b1 =>
 (if ¬b1 = 0 then (some ((b1, v1)))
 else ((lget v4 v1).bind fun b2 =>
 (if b2.1 ≤ v0 then (some ((11, v1)))
 else ((lget v4 v1).bind fun b3 =>
 (r13_Check.l0 n b3.1 (IntKind.wrap .i64 (v1 + 1)) v2 v3 v4)))))))
 else (some ((0, 0)))) := by kernel_rfl
theorem r13_Check.eq (n : Nat) (a0 a1 : Int) (a2 : List z5) : call r13_Check.C Tryz.f54 r13_Check.code r13_Check.sg r13_Check.rs n (a0, (a1, a2)) =
 (if ¬a0 = 1 then (if ¬a0 = 2 then (some ((1, -1)))
 else (if a1 < 0 then (some ((7, -1)))
 else (if a1 > 9 then (some ((7, -1)))
 else (r13_Check.l0 n 0 0 a0 a1 a2))))
 else (if a1 < 0 then (some ((7, -1)))
 else (if a1 > 9 then (some ((7, -1)))
 else (r13_Check.l0 n 0 0 a0 a1 a2)))) := by kernel_rfl
def r13_Check.f (x : Int × Int × List S5) : Option (Int × Int) := if x.2.2.length ≤ 1000000 then some (schemaE x) else none
theorem r13_Check (a b : Int) (s : List S5) (hs : s.length ≤ 1000000) : r13_Check.f (a, b, s) = some (schemaE (a, b, s)) := if_pos hs
theorem r13_Check_l (s : List S5) (hs : s.length ≤ 1000000) (a b : Int) : ∀ (m : List S5) (k i : Nat) (p : Int), s.drop i = m → m.length < k → r13_Check.l0 k p (i : Int) a b s = some (schE p i m)
 | [], k, i, p, hd, hk => by
  obtain ⟨k, rfl⟩ : ∃ m, k = m + 1 := ⟨k - 1, by omega⟩
  have := dropn hd
  rw [r13_Check.l0_eq, if_neg (by omega)]; rfl
 | v :: m, k, i, p, hd, hk => by
  obtain ⟨k, rfl⟩ : ∃ m, k = m + 1 := ⟨k - 1, by omega⟩
  obtain ⟨h1, h2, h3, h4⟩ := dropc hd
  have hk' : m.length < k := by simp at hk; omega
  rw [r13_Check.l0_eq, if_pos (by omega), h4, Option.bind_some, r11_Check', Option.bind_some, Option.bind_some, Option.bind_some, wrap_succ (by omega), r13_Check_l s hs a b m k (i + 1) v.1 h2 hk', schE]
  by_cases c1 : specE v.1 v.2.1 v.2.2.1 v.2.2.2.1 v.2.2.2.2 = 0
  ·rw [if_neg (not_not_intro c1), if_neg (not_not_intro c1)]
   by_cases c2 : v.1 ≤ p
   ·rw [if_pos c2, if_pos c2]
   ·rw [if_neg c2, if_neg c2]
  ·rw [if_pos c1, if_pos c1]
theorem r13_Check.run (a b : Int) (s : List S5) (hs : s.length ≤ 1000000) : call r13_Check.C Tryz.f54 r13_Check.code r13_Check.sg r13_Check.rs (s.length + 1) (a, b, s) = some (schemaE (a, b, s)) := by
 have hr := r13_Check_l s hs a b s (s.length + 1) 0 0 rfl (by omega)
 have hr : r13_Check.l0 (s.length + 1) 0 0 a b s = _ := hr
 rw [r13_Check.eq, hr]
 unfold schemaE
 dsimp only
 by_cases h1 : a = 1
 ·rw [if_neg (show ¬ ¬ a = 1 from fun e => e h1), if_neg (show ¬ ¬ (a = 1 ∨ a = 2) from fun e => e (.inl h1))]
  by_cases h2 : b < 0
  ·rw [if_pos h2, if_pos (.inl h2)]
  ·by_cases h3 : b > 9
   ·rw [if_neg h2, if_pos h3, if_pos (.inr h3)]
   ·rw [if_neg h2, if_neg h3, if_neg (show ¬ (b < 0 ∨ 9 < b) by omega)]
 ·rw [if_pos h1]
  by_cases h4 : a = 2
  ·rw [if_neg (show ¬ ¬ a = 2 from fun e => e h4), if_neg (show ¬ ¬ (a = 1 ∨ a = 2) from fun e => e (.inr h4))]
   by_cases h2 : b < 0
   ·rw [if_pos h2, if_pos (.inl h2)]
   ·by_cases h3 : b > 9
    ·rw [if_neg h2, if_pos h3, if_pos (.inr h3)]
    ·rw [if_neg h2, if_neg h3, if_neg (show ¬ (b < 0 ∨ 9 < b) by omega)]
  ·rw [if_pos h4, if_pos (show ¬ (a = 1 ∨ a = 2) from fun e => e.elim h1 h4)]
noncomputable def r13_Check.c : Con := ⟨54, r13_Check.sg, r13_Check.rs, r13_Check.f⟩
theorem r13_Check.con : ConOk Tryz.prog r13_Check.c := walked (C := r13_Check.C) rfl (by kernel_rfl) (by kernel_rfl) (by kernel_rfl) rfl ⟨r11_Check.con, trivial⟩ fun ⟨a, b, s⟩ y h => by
 have h : r13_Check.f (a, b, s) = some y := h
 unfold r13_Check.f at h
 split at h
 ·rename_i hc
  exact ⟨s.length + 1, (r13_Check.run a b s hc).trans h⟩
 ·cases h
@[reducible] def r13_Right.sg : List Shp := [.a zdS]
@[reducible] def r13_Right.rs : Rs := .one (.v (.bool))
@[reducible] noncomputable def r13_Right.code : Code := Tryz.f18.body.getD .skip
noncomputable def r13_Right.C : Ctx := ⟨tab, [r13_Check.c], [], ⟨[], []⟩⟩
theorem r13_Right.eq (n : Nat) (a0 a1 : Int) (a2 : List z5) : call r13_Right.C Tryz.f18 r13_Right.code r13_Right.sg r13_Right.rs n (a0, (a1, a2)) =
 ((r13_Check.f (a0, a1, a2)).bind fun b0 =>
 (some (decide (b0.1 = 0)))) := by kernel_rfl
noncomputable def r13_Right.f : El (sgTy r13_Right.sg) → Option (El r13_Right.rs.ty) := fun x => match x with
 | (a0, (a1, a2)) =>
 ((r13_Check.f (a0, a1, a2)).bind fun b0 =>
 (some (decide (Prod.fst b0 = 0))))
noncomputable def r13_Right.c : Con := ⟨18, r13_Right.sg, r13_Right.rs, r13_Right.f⟩
theorem r13_Right.con : ConOk Tryz.prog r13_Right.c := walked (C := r13_Right.C) rfl (by kernel_rfl) (by kernel_rfl) (by kernel_rfl) rfl ⟨r13_Check.con, trivial⟩ fun ⟨a0, ⟨a1, a2⟩⟩ y h => ⟨0, (r13_Right.eq 0 a0 a1 a2).trans h⟩
theorem r13_Right (a b : Int) (s : List S5) (hs : s.length ≤ 1000000) : r13_Right.f (a, b, s) = some (decide ((schemaE (a, b, s)).1 = 0)) := by
 simp only [r13_Right.f]
 rw [r13_Check a b s hs, Option.bind_some]
@[reducible] def r13_Find.sg : List Shp := [.a zdS, .v (.int .i64)]
@[reducible] def r13_Find.rs : Rs := .one (.v (.int .i64))
@[reducible] noncomputable def r13_Find.code : Code := Tryz.f139.body.getD .skip
noncomputable def r13_Find.C : Ctx := ⟨tab, [], [], ⟨[(2, [1, 2, 5], 1)], []⟩⟩
noncomputable def r13_Find.l0 (n : Nat) (v0 v1 v2 v3 : Int) (v4 : List z5) : Option Int := run r13_Find.C (finOf r13_Find.C Tryz.f139 r13_Find.rs) n (todoAt 2 r13_Find.code) ⟨zJ :: .int .i64 v0 :: .ptr 0 0 :: zJ :: zJ :: .int .i64 v1 :: zK (zK []), [[.int .i64 v2, .int .i64 v3, .sl none zd5 v4]], []⟩
theorem r13_Find.l0_eq n v0 v1 v2 v3 v4 : r13_Find.l0 (n + 1) v0 v1 v2 v3 v4 =
 (if v1 < (v4.length : Int) then ((lget v4 v1).bind fun b0 =>
 (if b0.1 = v0 then (some v1)
 else (r13_Find.l0 n v0 (IntKind.wrap .i64 (v1 + 1)) v2 v3 v4)))
 else (some (-1))) := by kernel_rfl
theorem r13_Find.eq (n : Nat) (a0 a1 : Int) (a2 : List z5) (a3 : Int) : call r13_Find.C Tryz.f139 r13_Find.code r13_Find.sg r13_Find.rs n ((a0, (a1, a2)), a3) =
 (r13_Find.l0 n a3 0 a0 a1 a2) := by kernel_rfl
def idxS (n : Int) : Nat → List S5 → Int
 | _, [] => -1
 | i, v :: m => if v.1 = n then (i : Int) else idxS n (i + 1) m
theorem idxS_find (n : Int) (s : List S5) : ∀ (m : List S5) (i : Nat), s.drop i = m → (idxS n i m < 0 ∧ (findS n m).2 = false) ∨ (¬ idxS n i m < 0 ∧ (findS n m).2 = true ∧ lget s (idxS n i m) = some (findS n m).1)
 | [], i, _ => .inl ⟨by show (-1 : Int) < 0; decide, rfl⟩
 | v :: m, i, hd => by
  obtain ⟨h1, h2, h3, h4⟩ := dropc hd
  rw [idxS, findS]
  split
  ·exact .inr ⟨by omega, rfl, h4⟩
  ·exact idxS_find n s m (i + 1) h2
def r13_Find.f (x : (Int × Int × List S5) × Int) : Option Int := if x.1.2.2.length ≤ 1000000 then some (idxS x.2 0 x.1.2.2) else none
theorem r13_Find (a b : Int) (s : List S5) (hs : s.length ≤ 1000000) (n : Int) : r13_Find.f ((a, b, s), n) = some (idxS n 0 s) := if_pos hs
theorem r13_Find_l (s : List S5) (hs : s.length ≤ 1000000) (n a b : Int) : ∀ (m : List S5) (k i : Nat), s.drop i = m → m.length < k → r13_Find.l0 k n (i : Int) a b s = some (idxS n i m)
 | [], k, i, hd, hk => by
  obtain ⟨k, rfl⟩ : ∃ m, k = m + 1 := ⟨k - 1, by omega⟩
  have := dropn hd
  rw [r13_Find.l0_eq, if_neg (by omega)]; rfl
 | v :: m, k, i, hd, hk => by
  obtain ⟨k, rfl⟩ : ∃ m, k = m + 1 := ⟨k - 1, by omega⟩
  obtain ⟨h1, h2, h3, h4⟩ := dropc hd
  have hk' : m.length < k := by simp at hk; omega
  rw [r13_Find.l0_eq, if_pos (by omega), h4, Option.bind_some, wrap_succ (by omega), r13_Find_l s hs n a b m k (i + 1) h2 hk', idxS]
  split <;> rfl
noncomputable def r13_Find.c : Con := ⟨139, r13_Find.sg, r13_Find.rs, r13_Find.f⟩
theorem r13_Find.con : ConOk Tryz.prog r13_Find.c := walked (C := r13_Find.C) rfl (by kernel_rfl) (by kernel_rfl) (by kernel_rfl) rfl trivial fun ⟨⟨a, b, s⟩, n⟩ y h => by
 have h : r13_Find.f ((a, b, s), n) = some y := h
 unfold r13_Find.f at h
 split at h
 ·rename_i hc
  exact ⟨s.length + 1, by rw [r13_Find.eq]; exact (r13_Find_l s hc n a b s _ 0 rfl (by omega)).trans h⟩
 ·cases h
@[reducible] def r01_Digit.sg : List Shp := [.v (.int .u8)]
@[reducible] def r01_Digit.rs : Rs := .one (.v (.bool))
@[reducible] noncomputable def r01_Digit.code : Code := Tryz.f196.body.getD .skip
noncomputable def r01_Digit.C : Ctx := ⟨tab, [], [], ⟨[], []⟩⟩
theorem r01_Digit.eq (n : Nat) (a0 : Int) : call r01_Digit.C Tryz.f196 r01_Digit.code r01_Digit.sg r01_Digit.rs n a0 =
 (if a0 ≥ 48 then (some (decide (a0 ≤ 57)))
 else (some false)) := by kernel_rfl
noncomputable def r01_Digit.f : El (sgTy r01_Digit.sg) → Option (El r01_Digit.rs.ty) := fun x => match x with
 | a0 =>
 (if a0 ≥ 48 then (some (decide (a0 ≤ 57)))
 else (some false))
noncomputable def r01_Digit.c : Con := ⟨196, r01_Digit.sg, r01_Digit.rs, r01_Digit.f⟩
theorem r01_Digit.con : ConOk Tryz.prog r01_Digit.c := walked (C := r01_Digit.C) rfl (by kernel_rfl) (by kernel_rfl) (by kernel_rfl) rfl trivial fun a0 y h => ⟨0, (r01_Digit.eq 0 a0).trans h⟩
@[reducible] def r01_All.sg : List Shp := [.v (.str)]
@[reducible] def r01_All.rs : Rs := .one (.v (.bool))
@[reducible] noncomputable def r01_All.code : Code := Tryz.f187.body.getD .skip
noncomputable def r01_All.C : Ctx := ⟨tab, [r01_Digit.c], [], ⟨[(2, [0, 3], 0)], []⟩⟩
noncomputable def r01_All.l0 (n : Nat) (v0 : ByteArray) (v1 : Int) : Option Bool := run r01_All.C (finOf r01_All.C Tryz.f187 r01_All.rs) n (todoAt 2 r01_All.code) ⟨.str v0 :: zJ :: zJ :: .int .i64 v1 :: zJ :: zJ :: zJ :: zK [], [], []⟩
theorem r01_All.l0_eq n v0 v1 : r01_All.l0 (n + 1) v0 v1 =
 (if v1 < (v0.size : Int) then ((bget v0 v1).bind fun b0 =>
 ((r01_Digit.f (↑(UInt8.toNat b0) : Int)).bind fun b1 =>
 (if ¬b1 = true then (some false)
 else (r01_All.l0 n v0 (IntKind.wrap .i64 (v1 + 1))))))
 else (some true)) := by kernel_rfl
theorem r01_All.eq (n : Nat) (a0 : ByteArray) : call r01_All.C Tryz.f187 r01_All.code r01_All.sg r01_All.rs n a0 =
 (r01_All.l0 n a0 0) := by kernel_rfl
def r01_All.f (s : ByteArray) : Option Bool := if s.size ≤ 1000000000000 then some ((bl s).all dig) else none
theorem r01_All (l : List UInt8) (hl : l.length ≤ 1000000000000) : r01_All.f (sb l) = some (l.all dig) := by
 unfold r01_All.f
 rw [if_pos (by rw [size_sb]; exact hl), bl_sb]
theorem r01_Digit256 : ∀ n : Fin 256, r01_Digit.f ((n.val : Nat) : Int) = some (dig (u8 n.val)) := by decide +kernel
theorem r01_Digit (a : UInt8) : r01_Digit.f (a.toNat : Int) = some (dig a) := by
 have := r01_Digit256 ⟨a.toNat, u8_lt a⟩
 simp only [u8_of_nat] at this
 exact this
theorem r01_All_l (l : List UInt8) (hl : l.length ≤ 1000000000000) : ∀ (m : List UInt8) (k i : Nat), l.drop i = m → m.length < k → r01_All.l0 k (sb l) (i : Int) = some (m.all dig)
 | [], k, i, hd, hk => by
  obtain ⟨k, rfl⟩ : ∃ m, k = m + 1 := ⟨k - 1, by omega⟩
  have := dropn hd
  rw [r01_All.l0_eq, if_neg (by rw [size_sb]; omega)]; rfl
 | a :: m, k, i, hd, hk => by
  obtain ⟨k, rfl⟩ : ∃ m, k = m + 1 := ⟨k - 1, by omega⟩
  obtain ⟨h1, h2, h3, -⟩ := dropc hd
  have hk' : m.length < k := by simp at hk; omega
  rw [r01_All.l0_eq, if_pos (by rw [size_sb]; omega), bget_drop hd, Option.bind_some, r01_Digit, Option.bind_some, wrap_succ (by omega), r01_All_l l hl m k (i + 1) h2 hk', List.all_cons]
  cases hx : dig a with
  | true => rw [if_neg (by simp), Bool.true_and]
  | false => rw [if_pos (by simp)]; rfl
noncomputable def r01_All.c : Con := ⟨187, r01_All.sg, r01_All.rs, r01_All.f⟩
theorem r01_All.con : ConOk Tryz.prog r01_All.c := walked (C := r01_All.C) rfl (by kernel_rfl) (by kernel_rfl) (by kernel_rfl) rfl ⟨r01_Digit.con, trivial⟩ fun s y h => by
 obtain ⟨l, rfl⟩ := ex_sb s
 have h : r01_All.f (sb l) = some y := h
 unfold r01_All.f at h
 split at h
 ·rename_i hc
  rw [size_sb] at hc
  exact ⟨l.length + 1, by rw [r01_All.eq]; exact (r01_All_l l hc l _ 0 rfl (by omega)).trans h⟩
 ·cases h
@[reducible] def r15_Right.sg : List Shp := [.v (.str)]
@[reducible] def r15_Right.rs : Rs := .one (.v (.bool))
@[reducible] noncomputable def r15_Right.code : Code := Tryz.f167.body.getD .skip
noncomputable def r15_Right.C : Ctx := ⟨tab, [r01_All.c], [], ⟨[], []⟩⟩
theorem r15_Right.eq (n : Nat) (a0 : ByteArray) : call r15_Right.C Tryz.f167 r15_Right.code r15_Right.sg r15_Right.rs n a0 =
 (if (a0.size : Int) = 4 then ((r01_All.f a0).bind fun b0 =>
 (some (decide (b0 = true))))
 else (some false)) := by kernel_rfl
noncomputable def r15_Right.f : El (sgTy r15_Right.sg) → Option (El r15_Right.rs.ty) := fun x => match x with
 | a0 =>
 (if (↑(ByteArray.size a0) : Int) = 4 then ((r01_All.f a0).bind fun b0 =>
  (some (decide (b0 = true))))
 else (some false))
noncomputable def r15_Right.c : Con := ⟨167, r15_Right.sg, r15_Right.rs, r15_Right.f⟩
theorem r15_Right.con : ConOk Tryz.prog r15_Right.c := walked (C := r15_Right.C) rfl (by kernel_rfl) (by kernel_rfl) (by kernel_rfl) rfl ⟨r01_All.con, trivial⟩ fun a0 y h => ⟨0, (r15_Right.eq 0 a0).trans h⟩
theorem r15_Right (t : List UInt8) : r15_Right.f (sb t) = some (right t) := by
 simp only [r15_Right.f, size_sb, right]
 by_cases h : t.length = 4
 ·rw [if_pos (by omega), r01_All t (by omega), Option.bind_some, decide_eq_true h, Bool.true_and]
  cases t.all dig <;> rfl
 ·rw [if_neg (by omega), decide_eq_false h]; rfl
@[reducible] def r04_Wider.sg : List Shp := [.v (.int .i64), .v (.int .i64)]
@[reducible] def r04_Wider.rs : Rs := .one (.v (.bool))
@[reducible] noncomputable def r04_Wider.code : Code := Tryz.f188.body.getD .skip
noncomputable def r04_Wider.C : Ctx := ⟨tab, [r04_Is.c], [], ⟨[(4, [0, 1, 5], 0)], []⟩⟩
noncomputable def r04_Wider.l0 (n : Nat) (v0 v1 v2 : Int) : Option Bool := run r04_Wider.C (finOf r04_Wider.C Tryz.f188 r04_Wider.rs) n (todoAt 4 r04_Wider.code) ⟨.int .i64 v0 :: .int .i64 v1 :: zJ :: zJ :: zJ :: .int .i64 v2 :: zJ :: zJ :: zJ :: zJ :: zJ :: zK (zK (zK [])), [], []⟩
theorem r04_Wider.l0_eq n v0 v1 v2 : r04_Wider.l0 (n + 1) v0 v1 v2 =
 (if v2 < 256 then ((r04_Is.f (v1, IntKind.wrap .u8 v2)).bind fun b0 =>
 (if b0 = true then ((r04_Is.f (v0, IntKind.wrap .u8 v2)).bind fun b1 =>
 (if ¬b1 = true then (some false)
 else (r04_Wider.l0 n v0 v1 (IntKind.wrap .i64 (v2 + 1)))))
 else (r04_Wider.l0 n v0 v1 (IntKind.wrap .i64 (v2 + 1)))))
 else (some true)) := by kernel_rfl
theorem r04_Wider.eq (n : Nat) (a0 a1 : Int) : call r04_Wider.C Tryz.f188 r04_Wider.code r04_Wider.sg r04_Wider.rs n (a0, a1) =
 (if a0 < 1 then (some false)
 else (if a0 > 6 then (some false)
 else (if a1 < 1 then (some false)
 else (if a1 > 6 then (some false)
 else (r04_Wider.l0 n a0 a1 0))))) := by kernel_rfl
def refW (a b : Int) (i d : Nat) : Bool := (List.range' i d).all fun n => !inN b ((n : Nat) : Int) || inN a ((n : Nat) : Int)
theorem refW_wid : ∀ a b : Fin 6, refW ((a.val + 1 : Nat) : Int) ((b.val + 1 : Nat) : Int) 0 256 = widC ((a.val + 1 : Nat) : Int) ((b.val + 1 : Nat) : Int) := by decide +kernel
theorem ref_Is_in {c : Int} (hc : 1 ≤ c ∧ c ≤ 6) (n : Fin 256) : r04_Is.f (c, ((n.val : Nat) : Int)) = some (inN c ((n.val : Nat) : Int)) := by
 obtain ⟨h1, h2, h3, h4, h5, h6⟩ := ref_Is256 n
 have : c = 1 ∨ c = 2 ∨ c = 3 ∨ c = 4 ∨ c = 5 ∨ c = 6 := by omega
 rcases this with rfl | rfl | rfl | rfl | rfl | rfl
 ·exact h1
 ·exact h2
 ·exact h3
 ·exact h4
 ·exact h5
 ·exact h6
theorem r04_Wider_l {a b : Int} (ha : 1 ≤ a ∧ a ≤ 6) (hb : 1 ≤ b ∧ b ≤ 6) : ∀ (d k i : Nat), i + d = 256 → d < k → r04_Wider.l0 k a b (i : Int) = some (refW a b i d)
 | 0, k, i, hi, hk => by
  obtain ⟨k, rfl⟩ : ∃ m, k = m + 1 := ⟨k - 1, by omega⟩
  rw [r04_Wider.l0_eq, if_neg (by omega)]; rfl
 | d + 1, k, i, hi, hk => by
  obtain ⟨k, rfl⟩ : ∃ m, k = m + 1 := ⟨k - 1, by omega⟩
  have e : IntKind.wrap .u8 (i : Int) = (i : Int) := by
   have : ∀ n : Fin 256, IntKind.wrap .u8 ((n.val : Nat) : Int) = ((n.val : Nat) : Int) := by decide +kernel
   exact this ⟨i, by omega⟩
  have ia := ref_Is_in ha ⟨i, by omega⟩
  have ib := ref_Is_in hb ⟨i, by omega⟩
  dsimp only at ia ib
  have hr : refW a b i (d + 1) = ((!inN b (i : Int) || inN a (i : Int)) && refW a b (i + 1) d) := by
   unfold refW
   rw [List.range'_succ, List.all_cons]
  rw [r04_Wider.l0_eq, if_pos (by omega), e, ib, Option.bind_some, ia, Option.bind_some, wrap_succ (by omega), r04_Wider_l ha hb d k (i + 1) (by omega) (by omega), hr]
  cases inN b (i : Int) with
  | false => rw [if_neg (by simp)]; simp
  | true =>
   rw [if_pos rfl]
   cases inN a (i : Int) with
   | false => rw [if_pos (by simp)]; simp
   | true => rw [if_neg (by simp)]; simp
noncomputable def r04_Wider.f (x : Int × Int) : Option Bool := some (widC x.1 x.2)
theorem r04_Wider.run (a b : Int) : call r04_Wider.C Tryz.f188 r04_Wider.code r04_Wider.sg r04_Wider.rs 300 (a, b) = some (widC a b) := by
 rw [r04_Wider.eq]
 have out : ¬ ((1 ≤ a ∧ a ≤ 6) ∧ (1 ≤ b ∧ b ≤ 6)) → widC a b = false := fun h => by
  cases hw : widC a b with
  | false => rfl
  | true => exact absurd (wid_range hw) h
 by_cases h1 : a < 1
 ·rw [if_pos h1, out (by omega)]
 rw [if_neg h1]
 by_cases h2 : a > 6
 ·rw [if_pos h2, out (by omega)]
 rw [if_neg h2]
 by_cases h3 : b < 1
 ·rw [if_pos h3, out (by omega)]
 rw [if_neg h3]
 by_cases h4 : b > 6
 ·rw [if_pos h4, out (by omega)]
 rw [if_neg h4]
 refine (r04_Wider_l (a := a) (b := b) (by omega) (by omega) 256 300 0 rfl (by omega)).trans ?_
 obtain ⟨m, rfl⟩ : ∃ m : Fin 6, a = ((m.val + 1 : Nat) : Int) := ⟨⟨(a - 1).toNat, by omega⟩, by simp; omega⟩
 obtain ⟨n, rfl⟩ : ∃ m : Fin 6, b = ((m.val + 1 : Nat) : Int) := ⟨⟨(b - 1).toNat, by omega⟩, by simp; omega⟩
 rw [refW_wid]
noncomputable def r04_Wider.c : Con := ⟨188, r04_Wider.sg, r04_Wider.rs, r04_Wider.f⟩
theorem r04_Wider.con : ConOk Tryz.prog r04_Wider.c := walked (C := r04_Wider.C) rfl (by kernel_rfl) (by kernel_rfl) (by kernel_rfl) rfl ⟨r04_Is.con, trivial⟩ fun ⟨a, b⟩ y h => ⟨300, (r04_Wider.run a b).trans h⟩
@[reducible] def r11_Wider.sg : List Shp := [.a zd5, .a zd5]
@[reducible] def r11_Wider.rs : Rs := .one (.v (.bool))
@[reducible] noncomputable def r11_Wider.code : Code := Tryz.f170.body.getD .skip
noncomputable def r11_Wider.C : Ctx := ⟨tab, [r11_Check.c, r04_Wider.c], [], ⟨[], []⟩⟩
theorem r11_Wider.eq (n : Nat) (a0 a1 a2 a3 a4 a5 a6 a7 a8 a9 : Int) : call r11_Wider.C Tryz.f170 r11_Wider.code r11_Wider.sg r11_Wider.rs n ((a0, (a1, (a2, (a3, a4)))), (a5, (a6, (a7, (a8, a9))))) =
 ((r11_Check.f (a0, a1, a2, a3, a4)).bind fun b0 =>
 (if ¬b0 = 0 then (some false)
 else ((r11_Check.f (a5, a6, a7, a8, a9)).bind fun b1 =>
 (if ¬b1 = 0 then (some false)
 else (if a3 > a8 then (some false)
 else (if a4 < a9 then (some false)
 else (if a1 = 5 then (some true)
 else (if a1 = 6 then (some (decide (a1 = a6)))
 else (if a6 = 6 then (some (decide (a1 = a6)))
 else ((r04_Wider.f (a1, a6)).bind fun b2 =>
 (some (decide (b2 = true))))))))))))) := by kernel_rfl
noncomputable def r11_Wider.f : El (sgTy r11_Wider.sg) → Option (El r11_Wider.rs.ty) := fun x => match x with
 | ((a0, (a1, (a2, (a3, a4)))), (a5, (a6, (a7, (a8, a9))))) =>
 ((r11_Check.f (a0, a1, a2, a3, a4)).bind fun b0 =>
 (if ¬b0 = 0 then (some false)
 else ((r11_Check.f (a5, a6, a7, a8, a9)).bind fun b1 =>
  (if ¬b1 = 0 then (some false)
  else (if a3 > a8 then (some false)
  else (if a4 < a9 then (some false)
   else (if a1 = 5 then (some true)
   else (if a1 = 6 then (some (decide (a1 = a6)))
    else (if a6 = 6 then (some (decide (a1 = a6)))
    else ((r04_Wider.f (a1, a6)).bind fun b2 =>
     (some (decide (b2 = true)))))))))))))
noncomputable def r11_Wider.c : Con := ⟨170, r11_Wider.sg, r11_Wider.rs, r11_Wider.f⟩
theorem r11_Wider.con : ConOk Tryz.prog r11_Wider.c := walked (C := r11_Wider.C) rfl (by kernel_rfl) (by kernel_rfl) (by kernel_rfl) rfl ⟨r11_Check.con, r04_Wider.con, trivial⟩ fun ⟨⟨a0, ⟨a1, ⟨a2, ⟨a3, a4⟩⟩⟩⟩, ⟨a5, ⟨a6, ⟨a7, ⟨a8, a9⟩⟩⟩⟩⟩ y h => ⟨0, (r11_Wider.eq 0 a0 a1 a2 a3 a4 a5 a6 a7 a8 a9).trans h⟩
theorem r11_Wider (a b : S5) : r11_Wider.f (a, b) = some (wider a b) := by
 obtain ⟨no, c, fo, mi, ma⟩ := a
 obtain ⟨no', c', fo', mi', ma'⟩ := b
 simp only [r11_Wider.f, wider, specW]
 rw [r11_Check, Option.bind_some, r11_Check, Option.bind_some]
 by_cases h1 : specE no c fo mi ma = 0
 ·rw [if_neg (not_not_intro h1)]
  by_cases h2 : specE no' c' fo' mi' ma' = 0
  ·rw [if_neg (not_not_intro h2)]
   by_cases h3 : mi > mi'
   ·rw [if_pos h3, decide_eq_false (fun h => by have := h.2.2.1; omega)]; rfl
   ·rw [if_neg h3]
    by_cases h4 : ma < ma'
    ·rw [if_pos h4, decide_eq_false (fun h => by have := h.2.2.2; omega)]; rfl
    ·rw [if_neg h4, decide_eq_true (show specE no c fo mi ma = 0 ∧ specE no' c' fo' mi' ma' = 0 ∧ mi ≤ mi' ∧ ma' ≤ ma from ⟨h1, h2, by omega, by omega⟩), Bool.true_and]
     unfold specC
     by_cases g1 : c = 5
     ·rw [if_pos g1, if_pos g1]
     rw [if_neg g1, if_neg g1]
     by_cases g2 : c = 6
     ·rw [if_pos g2, if_pos (.inl g2)]; congr 1
     rw [if_neg g2]
     by_cases g3 : c' = 6
     ·rw [if_pos g3, if_pos (.inr g3)]; congr 1
     rw [if_neg g3, if_neg (fun q => q.elim g2 g3), show r04_Wider.f (c, c') = some (widC c c') from rfl, Option.bind_some]
     simp
  ·rw [if_pos h2, decide_eq_false (fun h => h2 h.2.1)]; rfl
 ·rw [if_pos h1, decide_eq_false (fun h => h1 h.1)]; rfl
def fstI (t : ByteArray) : Nat → List PB → Int
 | _, [] => -1
 | i, p :: m => if p.1 = t then (i : Int) else fstI t (i + 1) m
theorem fstI_mem (t : ByteArray) : ∀ (m : List PB) (i : Nat), (fstI t i m < 0 ∧ t ∉ m.map Prod.fst) ∨ (∃ j : Nat, fstI t i m = ((i + j : Nat) : Int) ∧ j < m.length ∧ t ∈ m.map Prod.fst)
 | [], i => .inl ⟨by show (-1 : Int) < 0; decide, by simp⟩
 | p :: m, i => by
  rw [fstI]
  by_cases c : p.1 = t
  ·rw [if_pos c]
   exact .inr ⟨0, rfl, by simp, by rw [List.map_cons, c]; exact List.mem_cons_self ..⟩
  ·rw [if_neg c]
   rcases fstI_mem t m (i + 1) with ⟨h1, h2⟩ | ⟨j, h1, h2, h3⟩
   ·exact .inl ⟨h1, fun h => by rw [List.map_cons] at h; exact (List.mem_cons.1 h).elim (fun e => c e.symm) h2⟩
   ·exact .inr ⟨j + 1, by rw [h1]; congr 1; omega, by rw [List.length_cons]; omega, by rw [List.map_cons]; exact List.mem_cons_of_mem _ h3⟩
@[reducible] def r19_find.sg : List Shp := [.v (.sl zdP), .v (.int .i64), .v (.str)]
@[reducible] def r19_find.rs : Rs := .one (.v (.int .i64))
@[reducible] noncomputable def r19_find.code : Code := Tryz.f169.body.getD .skip
noncomputable def r19_find.C : Ctx := ⟨tab, [], [], ⟨[(2, [0, 1, 2, 7], 0)], []⟩⟩
noncomputable def r19_find.l0 (n : Nat) (v0 : List zP) (v1 : Int) (v2 : ByteArray) (v3 : Int) : Option Int := run r19_find.C (finOf r19_find.C Tryz.f169 r19_find.rs) n (todoAt 2 r19_find.code) ⟨.sl none zdP v0 :: .int .i64 v1 :: .str v2 :: zJ :: zJ :: zJ :: zJ :: .int .i64 v3 :: zJ :: zJ :: zJ :: zJ :: zJ :: zK [], [], []⟩
theorem r19_find.l0_eq n v0 v1 v2 v3 : r19_find.l0 (n + 1) v0 v1 v2 v3 =
 (if v3 < v1 then ((lget v0 v3).bind fun b0 =>
 (if b0.1 = v2 then (some v3)
 else (r19_find.l0 n v0 v1 v2 (IntKind.wrap .i64 (v3 + 1)))))
 else (some (-1))) := by kernel_rfl
theorem r19_find.eq (n : Nat) (a0 : List zP) (a1 : Int) (a2 : ByteArray) : call r19_find.C Tryz.f169 r19_find.code r19_find.sg r19_find.rs n (a0, (a1, a2)) =
 (r19_find.l0 n a0 a1 a2 0) := by kernel_rfl
noncomputable def r19_find.f (x : List PB × Int × ByteArray) : Option Int := if x.1.length ≤ 100000 ∧ 0 ≤ x.2.1 ∧ x.2.1 ≤ (x.1.length : Int) then some (fstI x.2.2 0 (x.1.take x.2.1.toNat)) else none
theorem r19_find (l : List PB) (hl : l.length ≤ 100000) (n : Nat) (hn : n ≤ l.length) (t : ByteArray) : r19_find.f (l, (n : Int), t) = some (fstI t 0 (l.take n)) := by
 unfold r19_find.f
 rw [if_pos ⟨hl, by dsimp only; omega, by dsimp only; omega⟩]; rfl
theorem r19_find_l (l : List PB) (hl : l.length ≤ 100000) (n : Nat) (hn : n ≤ l.length) (t : ByteArray) : ∀ (m : List PB) (k i : Nat), (l.take n).drop i = m → m.length < k → r19_find.l0 k l (n : Int) t (i : Int) = some (fstI t i m)
 | [], k, i, hd, hk => by
  obtain ⟨k, rfl⟩ : ∃ m, k = m + 1 := ⟨k - 1, by omega⟩
  have := dropn hd
  rw [List.length_take] at this
  rw [r19_find.l0_eq, if_neg (by omega)]; rfl
 | p :: m, k, i, hd, hk => by
  obtain ⟨k, rfl⟩ : ∃ m, k = m + 1 := ⟨k - 1, by omega⟩
  obtain ⟨h1, h2, h3, -⟩ := dropc hd
  rw [List.length_take] at h1
  have hk' : m.length < k := by simp at hk; omega
  have h5 : l[i]'(by omega) = p := by
   have := congrArg (fun z => z[0]?) hd
   simp only [List.getElem?_drop, List.getElem?_take, Nat.add_zero, List.getElem?_cons_zero] at this
   rw [if_pos (by omega), List.getElem?_eq_getElem (by omega)] at this
   exact Option.some.inj this
  rw [r19_find.l0_eq, if_pos (by omega), lget_nat l i (by omega), h5, Option.bind_some, wrap_succ (by omega), r19_find_l l hl n hn t m k (i + 1) h2 hk', fstI]
  split <;> rfl
noncomputable def r19_find.c : Con := ⟨169, r19_find.sg, r19_find.rs, r19_find.f⟩
theorem r19_find.con : ConOk Tryz.prog r19_find.c := walked (C := r19_find.C) rfl (by kernel_rfl) (by kernel_rfl) (by kernel_rfl) rfl trivial fun ⟨l, n, t⟩ y h => by
 have h : r19_find.f (l, n, t) = some y := h
 unfold r19_find.f at h
 split at h
 ·rename_i hc
  obtain ⟨h1, h2, h3⟩ := hc
  dsimp only at h1 h2 h3
  obtain ⟨n, rfl⟩ := Int.eq_ofNat_of_zero_le h2
  refine ⟨l.length + 1, ?_⟩
  rw [r19_find.eq]
  exact (r19_find_l l h1 n (by omega) t _ _ 0 rfl (by rw [List.drop_zero, List.length_take]; omega)).trans h
 ·cases h
@[reducible] def r19_Apply.sg : List Shp := [.v (.sl zdP), .v (.str)]
@[reducible] def r19_Apply.rs : Rs := .tup [.v (.str), .v (.bool)]
@[reducible] noncomputable def r19_Apply.code : Code := Tryz.f145.body.getD .skip
noncomputable def r19_Apply.C : Ctx := ⟨tab, [r19_find.c], [], ⟨[], []⟩⟩
theorem r19_Apply.eq (n : Nat) (a0 : List zP) (a1 : ByteArray) : call r19_Apply.C Tryz.f145 r19_Apply.code r19_Apply.sg r19_Apply.rs n (a0, a1) =
 ((r19_find.f (a0, (a0.length : Int), a1)).bind fun b0 =>
 (if b0 < 0 then (some ((ByteArray.mk #[], false)))
 else ((lget a0 b0).bind fun b1 =>
 (some ((b1.2, true)))))) := by kernel_rfl
noncomputable def r19_Apply.f : El (sgTy r19_Apply.sg) → Option (El r19_Apply.rs.ty) := fun x => match x with
 | (a0, a1) =>
 ((r19_find.f (a0, (↑(List.length a0) : Int), a1)).bind fun b0 =>
 (if b0 < 0 then (some ((ByteArray.mk #[], false)))
 else ((lget a0 b0).bind fun b1 =>
  (some ((Prod.snd b1, true))))))
noncomputable def r19_Apply.c : Con := ⟨145, r19_Apply.sg, r19_Apply.rs, r19_Apply.f⟩
theorem r19_Apply.con : ConOk Tryz.prog r19_Apply.c := walked (C := r19_Apply.C) rfl (by kernel_rfl) (by kernel_rfl) (by kernel_rfl) rfl ⟨r19_find.con, trivial⟩ fun ⟨a0, a1⟩ y h => ⟨0, (r19_Apply.eq 0 a0 a1).trans h⟩
theorem r19_Apply (l : List PB) (hl : l.length ≤ 100000) (t : ByteArray) : ∃ z, r19_Apply.f (l, t) = some (z, decide (t ∈ l.map Prod.fst)) := by
 simp only [r19_Apply.f]
 rw [r19_find l hl l.length (Nat.le_refl _) t, Option.bind_some, List.take_length]
 rcases fstI_mem t l 0 with ⟨h1, h2⟩ | ⟨j, h1, h2, h3⟩
 ·rw [if_pos h1, decide_eq_false h2]; exact ⟨_, rfl⟩
 ·rw [h1, if_neg (by omega), Nat.zero_add, lget_nat l j h2, Option.bind_some, decide_eq_true h3]; exact ⟨_, rfl⟩
theorem take_fst {l : List PB} {i : Nat} {p : PB} {m : List PB} (hd : l.drop i = p :: m) : (l.take (i + 1)).map Prod.fst = (l.take i).map Prod.fst ++ [p.1] := by
 have : l[i]? = some p := by
  have := congrArg (fun z => z[0]?) hd
  simpa only [List.getElem?_drop, Nat.add_zero, List.getElem?_cons_zero] using this
 rw [List.take_add_one, this, List.map_append]; rfl
@[reducible] def r19_Check.sg : List Shp := [.v (.sl zdP)]
@[reducible] def r19_Check.rs : Rs := .tup [.v (.int .i64), .v (.int .i64)]
@[reducible] noncomputable def r19_Check.code : Code := Tryz.f171.body.getD .skip
noncomputable def r19_Check.C : Ctx := ⟨tab, [r19_find.c], [], ⟨[(4, [0, 4], 0)], []⟩⟩
noncomputable def r19_Check.l0 (n : Nat) (v0 : List zP) (v1 : Int) : Option ((Int × Int)) := run r19_Check.C (finOf r19_Check.C Tryz.f171 r19_Check.rs) n (todoAt 4 r19_Check.code) ⟨.sl none zdP v0 :: zJ :: zJ :: zJ :: .int .i64 v1 :: zJ :: zJ :: zJ :: zK (zK []), [], []⟩
theorem r19_Check.l0_eq n v0 v1 : r19_Check.l0 (n + 1) v0 v1 =
 (if v1 < (v0.length : Int) then ((lget v0 v1).bind fun b0 =>
 ((r19_find.f (v0, v1, b0.1)).bind fun b1 =>
 (if b1 ≥ 0 then (some ((10, v1)))
 else (r19_Check.l0 n v0 (IntKind.wrap .i64 (v1 + 1))))))
 else (some ((0, 0)))) := by kernel_rfl
theorem r19_Check.eq (n : Nat) (a0 : List zP) : call r19_Check.C Tryz.f171 r19_Check.code r19_Check.sg r19_Check.rs n a0 =
 (if (a0.length : Int) > 256 then (some ((5, 256)))
 else (r19_Check.l0 n a0 0)) := by kernel_rfl
noncomputable def r19_Check.f (l : List PB) : Option (Int × Int) := if l.length ≤ 100000 then some (pairsE l) else none
theorem r19_Check (l : List PB) (hl : l.length ≤ 100000) : r19_Check.f l = some (pairsE l) := if_pos hl
theorem r19_Check_l (l : List PB) (hl : l.length ≤ 100000) : ∀ (m : List PB) (k i : Nat), l.drop i = m → m.length < k → r19_Check.l0 k l (i : Int) = some (pairsL m ((l.take i).map Prod.fst) i)
 | [], k, i, hd, hk => by
  obtain ⟨k, rfl⟩ : ∃ m, k = m + 1 := ⟨k - 1, by omega⟩
  have := dropn hd
  rw [r19_Check.l0_eq, if_neg (by omega)]; rfl
 | p :: m, k, i, hd, hk => by
  obtain ⟨k, rfl⟩ : ∃ m, k = m + 1 := ⟨k - 1, by omega⟩
  obtain ⟨h1, h2, h3, h4⟩ := dropc hd
  have hk' : m.length < k := by simp at hk; omega
  rw [r19_Check.l0_eq, if_pos (by omega), h4, Option.bind_some, r19_find l hl i (by omega), Option.bind_some, wrap_succ (by omega), r19_Check_l l hl m k (i + 1) h2 hk', take_fst hd, pairsL]
  rcases fstI_mem p.1 (l.take i) 0 with ⟨e1, e2⟩ | ⟨j, e1, e2, e3⟩
  ·rw [if_neg (by omega), if_neg e2]
  ·rw [if_pos (by omega), if_pos e3]
noncomputable def r19_Check.c : Con := ⟨171, r19_Check.sg, r19_Check.rs, r19_Check.f⟩
theorem r19_Check.con : ConOk Tryz.prog r19_Check.c := walked (C := r19_Check.C) rfl (by kernel_rfl) (by kernel_rfl) (by kernel_rfl) rfl ⟨r19_find.con, trivial⟩ fun l y h => by
 have h : r19_Check.f l = some y := h
 unfold r19_Check.f at h
 split at h
 ·rename_i hc
  refine ⟨l.length + 1, ?_⟩
  rw [r19_Check.eq, ← h, pairsE]
  by_cases c : 256 < l.length
  ·rw [if_pos c, if_pos (by omega)]
  ·rw [if_neg c, if_neg (by omega)]
   exact r19_Check_l l hc l _ 0 rfl (by omega)
 ·cases h
@[reducible] def r20_Check.sg : List Shp := [.a zdR, .a zdS, .a zdS]
@[reducible] def r20_Check.rs : Rs := .one (.v (.int .i64))
@[reducible] noncomputable def r20_Check.code : Code := Tryz.f146.body.getD .skip
noncomputable def r20_Check.C : Ctx := ⟨tab, [r13_Find.c, r11_Value.c, r11_Wider.c, r19_Check.c], [], ⟨[(27, [3, 4, 5, 7, 8, 13], 3)], [(1, [(23, .bool)]), (5, [(48, .bool)]), (7, [(65, .bool)]), (9, [(84, .bool)]), (24, [(156, .bool)]), (20, [(140, .bool)])]⟩⟩
noncomputable def r20_Check.l0 (n : Nat) (v0 v1 v2 v3 v4 v5 : Int) (v6 : ByteArray) (v7 : List zP) (v8 v9 : Int) (v10 : List z5) (v11 v12 : Int) (v13 : List z5) : Option Int := run r20_Check.C (finOf r20_Check.C Tryz.f146 r20_Check.rs) n (todoAt 27 r20_Check.code) ⟨zJ :: zJ :: zJ :: .ptr 0 0 :: .ptr 1 0 :: .ptr 2 0 :: zJ :: .int .i64 v0 :: .int .i64 v1 :: zJ :: zJ :: zJ :: zJ :: .int .i64 v2 :: zJ :: zJ :: zJ :: zJ :: zK (zK (zK (zK (zK (zK (zK (zK (zK (zK (zK (zK (zK (zK (zK (zK (zK (zK (zK (zK (zK (zK []))))))))))))))))))))), [[.int .i64 v3, .int .i64 v4, .int .i64 v5, .str v6, .sl none zdP v7], [.int .i64 v8, .int .i64 v9, .sl none zd5 v10], [.int .i64 v11, .int .i64 v12, .sl none zd5 v13]], []⟩
theorem r20_Check.l0_eq n v0 v1 v2 v3 v4 v5 v6 v7 v8 v9 v10 v11 v12 v13 : r20_Check.l0 (n + 1) v0 v1 v2 v3 v4 v5 v6 v7 v8 v9 v10 v11 v12 v13 =
 (if v2 < (v7.length : Int) then ((lget v10 v0).bind fun b16 =>
 ((lget v7 v2).bind fun b17 =>
 ((r11_Value.f (b16, b17.1)).bind fun b18 =>
 (if ¬b18 = 0 then (some b18)
 else ((lget v13 v1).bind fun b19 =>
 ((lget v7 v2).bind fun b20 =>
 ((r11_Value.f (b19, b20.2)).bind fun b21 =>
 (if ¬b21 = 0 then (some b21)
 else (r20_Check.l0 n v0 v1 (IntKind.wrap .i64 (v2 + 1)) v3 v4 v5 v6 v7 v8 v9 v10 v11 v12 v13)))))))))
 else (some 0)) := by kernel_rfl
theorem r20_Check.eq (n : Nat) (a0 a1 a2 : Int) (a3 : ByteArray) (a4 : List zP) (a5 a6 : Int) (a7 : List z5) (a8 a9 : Int) (a10 : List z5) : call r20_Check.C Tryz.f146 r20_Check.code r20_Check.sg r20_Check.rs n ((a0, (a1, (a2, (a3, a4)))), ((a5, (a6, a7)), (a8, (a9, a10)))) =
 ((((if a0 < 1 then (some true)
 else (some (decide (a0 > 5)))) : Option Bool)).bind fun b0 =>
 (if b0 = true then (some 1)
 else ((r13_Find.f ((a5, a6, a7), a1)).bind fun b1 =>
 ((r13_Find.f ((a8, a9, a10), a2)).bind fun b2 =>
 ((((if a0 = 3 then (if ¬a1 = 0 then (some true)
 else (if ¬a0 = 3 then (some (decide (b1 < 0)))
 else (some false)))
 else (if ¬a0 = 3 then (some (decide (b1 < 0)))
 else (some false))) : Option Bool)).bind fun b3 =>
 (if b3 = true then (some 9)
 else ((((if a0 = 2 then (if ¬a2 = 0 then (some true)
 else (if ¬a0 = 2 then (some (decide (b2 < 0)))
 else (some false)))
 else (if ¬a0 = 2 then (some (decide (b2 < 0)))
 else (some false))) : Option Bool)).bind fun b4 =>
 (if b4 = true then (some 9)
 else ((((if ¬a3 = ByteArray.mk #[] then (if ¬a0 = 3 then (some true)
 else (if (a4.length : Int) > 0 then (some (decide ¬a0 = 5))
 else (some false)))
 else (if (a4.length : Int) > 0 then (some (decide ¬a0 = 5))
 else (some false))) : Option Bool)).bind fun b5 =>
 (if b5 = true then (some 3)
 else (if a0 = 1 then ((lget a10 b2).bind fun b6 =>
 ((lget a7 b1).bind fun b7 =>
 ((r11_Wider.f (b6, b7)).bind fun b8 =>
 (if ¬b8 = true then (some 6)
 else (some 0)))))
 else (if a0 = 3 then ((lget a10 b2).bind fun b9 =>
 ((r11_Value.f (b9, a3)).bind fun b10 =>
 (some b10)))
 else (if a0 = 4 then ((lget a7 b1).bind fun b11 =>
 ((lget a10 b2).bind fun b12 =>
 ((((if ¬b11.2.1 = 1 then (some true)
 else (if ¬b11.2.2.1 = 1 then (some true)
 else (if ¬b12.2.1 = 1 then (some true)
 else (some (decide ¬b12.2.2.1 = 1))))) : Option Bool)).bind fun b13 =>
 (if b13 = true then (some 6)
 else (some 0)))))
 else (if a0 = 5 then ((r19_Check.f a4).bind fun b14 =>
 ((((if ¬b14.1 = 0 then (some true)
 else (some (decide ((a4.length : Int) = 0)))) : Option Bool)).bind fun b15 =>
 (if b15 = true then (some 15)
 else (r20_Check.l0 n b1 b2 0 a0 a1 a2 a3 a4 a5 a6 a7 a8 a9 a10))))
 else (some 0))))))))))))))) := by kernel_rfl
noncomputable def r20_Check.f (x : RU × (Int × Int × List S5) × Int × Int × List S5) : Option Int := if okR x.1 ∧ x.2.1.2.2.length ≤ 1000000 ∧ x.2.2.2.2.length ≤ 1000000 then some (ruleE x.1 x.2.1.2.2 x.2.2.2.2) else none
theorem r20_Check (r : RU) (hr : okR r) (a1 a2 : Int) (a : List S5) (ha : a.length ≤ 1000000) (b1 b2 : Int) (b : List S5) (hb : b.length ≤ 1000000) : r20_Check.f (r, (a1, a2, a), b1, b2, b) = some (ruleE r a b) := if_pos ⟨hr, ha, hb⟩
theorem r20_Check_l (i j : Int) (k0 k1 k2 : Int) (k3 : ByteArray) (l : List PB) (hl : okP l) (a1 a2 : Int) (a : List S5) (b1 b2 : Int) (b : List S5) (p q : S5) (hp : lget a i = some p) (hq : lget b j = some q) : ∀ (m : List PB) (k n : Nat), l.drop n = m → m.length < k →
  r20_Check.l0 k i j (n : Int) k0 k1 k2 k3 l a1 a2 a b1 b2 b = some (tableL p q m)
 | [], k, n, hd, hk => by
  obtain ⟨k, rfl⟩ : ∃ m, k = m + 1 := ⟨k - 1, by omega⟩
  have := dropn hd
  rw [r20_Check.l0_eq, if_neg (by omega)]; rfl
 | x :: m, k, n, hd, hk => by
  obtain ⟨k, rfl⟩ : ∃ m, k = m + 1 := ⟨k - 1, by omega⟩
  obtain ⟨h1, h2, h3, h4⟩ := dropc hd
  have hk' : m.length < k := by simp at hk; omega
  have hl1 := hl.1
  obtain ⟨z1, z2⟩ := hl.2 x (by have := List.drop_subset n l (a := x); rw [hd] at this; exact this (List.mem_cons_self ..))
  obtain ⟨x1, x2⟩ := x
  obtain ⟨x1, rfl⟩ := ex_sb x1
  obtain ⟨x2, rfl⟩ := ex_sb x2
  obtain ⟨p0, p1, p2, p3, p4⟩ := p
  obtain ⟨q0, q1, q2, q3, q4⟩ := q
  rw [size_sb] at z1 z2
  rw [r20_Check.l0_eq, if_pos (by omega), hp, Option.bind_some, h4, Option.bind_some]
  dsimp only
  rw [r11_Value _ _ _ _ _ x1 z1, Option.bind_some, hq, Option.bind_some, Option.bind_some, r11_Value _ _ _ _ _ x2 z2, Option.bind_some, wrap_succ (by omega), r20_Check_l i j k0 k1 k2 k3 l hl a1 a2 a b1 b2 b _ _ hp hq m k (n + 1) h2 hk', tableL]
  dsimp only
  rw [bl_sb, bl_sb]
  unfold specA
  by_cases c1 : specV p0 p1 p2 p3 p4 x1 = 0
  ·rw [if_neg (not_not_intro c1), if_neg (not_not_intro c1)]
   by_cases c2 : specV q0 q1 q2 q3 q4 x2 = 0
   ·rw [if_neg (not_not_intro c2), if_neg (not_not_intro c2)]
   ·rw [if_pos c2, if_pos c2]
  ·rw [if_pos c1, if_pos c1]
end Go.Proofs.YtkaihbkfobiejaaGreatDoor.Xe
