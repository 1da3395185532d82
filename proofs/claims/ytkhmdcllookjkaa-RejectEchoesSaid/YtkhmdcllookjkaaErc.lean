/- What the program's choice of a code answers, and the reference's. -/
import Derived.Test.YtkhmdcllookjkaaNRej
import Derived.Test.YtkhmdcllookjkaaEms
namespace Go.Proofs.Ytkhmdcllookjkaa.Xe
open Go Go.RowKit Go.Proofs.Ytkhmdcllookjkaa.Sp
set_option linter.unusedVariables false
set_option linter.unusedSimpArgs false
set_option maxRecDepth 100000
/-! ### reject_Code -/
@[reducible] def reject_Code.sg : List Shp := [.a (.pair (.pair (.int .i64) (.pair (.int .i64) (.sl (.pair (.int .i64) (.pair (.int .i64) (.pair (.int .i64) (.pair (.int .i64) (.int .i64)))))))) (.pair (.pair (.sl (.pair (.str) (.str))) (.sl (.pair (.int .i64) (.pair (.int .i64) (.pair (.int .i64) (.pair (.str) (.sl (.pair (.str) (.str))))))))) (.pair (.sl (.int .i64)) (.sl (.pair (.int .i64) (.str)))))), .v (.int .i64)]
@[reducible] def reject_Code.rs : Rs := .one (.v (.str))
@[reducible] noncomputable def reject_Code.code : Code := Try.f36.body.getD .skip
noncomputable def reject_Code.C : Ctx := ⟨tab, [], [], ⟨[(2, [2, 10, 11, 12], 1), (5, [2, 6, 10, 11, 12, 17, 18, 19], 1)], []⟩⟩
noncomputable def reject_Code.l0 (n : Nat) (v0 : List Int) (v1 : Int) (v2 : Int) (v3 : Int) (v4 : Int) (v5 : List ((Int × (Int × (Int × (Int × Int)))))) (v6 : List ((ByteArray × ByteArray))) (v7 : List ((Int × (Int × (Int × (ByteArray × List ((ByteArray × ByteArray)))))))) (v8 : List Int) (v9 : List ((Int × ByteArray))) : Option ByteArray := run reject_Code.C (finOf reject_Code.C Try.f36 reject_Code.rs) n (todoAt 2 reject_Code.code) ⟨[.junk, .junk, .ptr 0 0, .junk, .junk, .junk, .junk, .junk, .junk, .junk, .sl (some 0) (.int .i64) v0, .int .i64 v1, .int .i64 v2, .junk, .junk, .junk, .junk, .junk, .junk, .junk, .junk, .junk, .junk, .junk, .junk, .junk, .junk, .junk, .junk, .junk, .junk], [[.int .i64 v3, .int .i64 v4, .sl none (.pair (.int .i64) (.pair (.int .i64) (.pair (.int .i64) (.pair (.int .i64) (.int .i64))))) v5, .sl none (.pair (.str) (.str)) v6, .sl none (.pair (.int .i64) (.pair (.int .i64) (.pair (.int .i64) (.pair (.str) (.sl (.pair (.str) (.str))))))) v7, .sl none (.int .i64) v8, .sl none (.pair (.int .i64) (.str)) v9]], [true]⟩
noncomputable def reject_Code.l1 (n : Nat) (v0 : Int) (v1 : List Int) (v2 : Int) (v3 : Int) (v4 : List ((Int × ByteArray))) (v5 : Int) (v6 : Int) (v7 : Int) (v8 : Int) (v9 : List ((Int × (Int × (Int × (Int × Int)))))) (v10 : List ((ByteArray × ByteArray))) (v11 : List ((Int × (Int × (Int × (ByteArray × List ((ByteArray × ByteArray)))))))) (v12 : List Int) (v13 : List ((Int × ByteArray))) : Option ByteArray := run reject_Code.C (finOf reject_Code.C Try.f36 reject_Code.rs) n (todoAt 5 reject_Code.code) ⟨[.junk, .junk, .ptr 0 0, .junk, .junk, .junk, .int .i64 v0, .junk, .junk, .junk, .sl (some 0) (.int .i64) v1, .int .i64 v2, .int .i64 v3, .junk, .junk, .junk, .junk, .sl none (.pair (.int .i64) (.str)) v4, .int .i64 v5, .int .i64 v6, .junk, .junk, .junk, .junk, .junk, .junk, .junk, .junk, .junk, .junk, .junk], [[.int .i64 v7, .int .i64 v8, .sl none (.pair (.int .i64) (.pair (.int .i64) (.pair (.int .i64) (.pair (.int .i64) (.int .i64))))) v9, .sl none (.pair (.str) (.str)) v10, .sl none (.pair (.int .i64) (.pair (.int .i64) (.pair (.int .i64) (.pair (.str) (.sl (.pair (.str) (.str))))))) v11, .sl none (.int .i64) v12, .sl none (.pair (.int .i64) (.str)) v13]], [true]⟩
-- the loop at region 2
theorem reject_Code.l0_eq (n : Nat) (v0 : List Int) (v1 : Int) (v2 : Int) (v3 : Int) (v4 : Int) (v5 : List ((Int × (Int × (Int × (Int × Int)))))) (v6 : List ((ByteArray × ByteArray))) (v7 : List ((Int × (Int × (Int × (ByteArray × List ((ByteArray × ByteArray)))))))) (v8 : List Int) (v9 : List ((Int × ByteArray))) : reject_Code.l0 (n + 1) v0 v1 v2 v3 v4 v5 v6 v7 v8 v9 =
  (if v2 < v1 then ((lget v0 v2).bind fun b0 =>
   (reject_Code.l1 n b0 v0 v1 v2 v9 ((↑(List.length v9) : Int)) 0 v3 v4 v5 v6 v7 v8 v9))
  else (some (ByteArray.mk #[]))) := by kernel_rfl
-- the loop at region 5
theorem reject_Code.l1_eq (n : Nat) (v0 : Int) (v1 : List Int) (v2 : Int) (v3 : Int) (v4 : List ((Int × ByteArray))) (v5 : Int) (v6 : Int) (v7 : Int) (v8 : Int) (v9 : List ((Int × (Int × (Int × (Int × Int)))))) (v10 : List ((ByteArray × ByteArray))) (v11 : List ((Int × (Int × (Int × (ByteArray × List ((ByteArray × ByteArray)))))))) (v12 : List Int) (v13 : List ((Int × ByteArray))) : reject_Code.l1 (n + 1) v0 v1 v2 v3 v4 v5 v6 v7 v8 v9 v10 v11 v12 v13 =
  (if v6 < v5 then ((lget v4 v6).bind fun b1 =>
   (if Prod.fst b1 = v0 then (some (Prod.snd b1))
   else (reject_Code.l1 n v0 v1 v2 v3 v4 v5 (IntKind.wrap IntKind.i64 (v6 + 1)) v7 v8 v9 v10 v11 v12 v13)))
  else (reject_Code.l0 n v1 v2 (IntKind.wrap IntKind.i64 (v3 + 1)) v7 v8 v9 v10 v11 v12 v13)) := by kernel_rfl
theorem reject_Code.eq (n : Nat) (a0 : Int) (a1 : Int) (a2 : List ((Int × (Int × (Int × (Int × Int)))))) (a3 : List ((ByteArray × ByteArray))) (a4 : List ((Int × (Int × (Int × (ByteArray × List ((ByteArray × ByteArray)))))))) (a5 : List Int) (a6 : List ((Int × ByteArray))) (a7 : Int) : call reject_Code.C Try.f36 reject_Code.code reject_Code.sg reject_Code.rs n (((a0, (a1, a2)), ((a3, a4), (a5, a6))), a7) =
  (reject_Code.l0 n ([a7, 0]) ((↑(List.length [a7, 0]) : Int)) 0 a0 a1 a2 a3 a4 a5 a6) := by kernel_rfl
def reject_Code.f (x : RJ × Int) : Option ByteArray := if x.1.2.2.2.length ≤ 5864062014700 then some (codeV x.2 x.1.2.2.2) else none
theorem reject_Code (s : Int × Int × List S5) (c : RC) (e : List Int) (l : List V) (hl : l.length ≤ 5864062014700) (n : Int) : reject_Code.f ((s, c, e, l), n) = some (codeV n l) := if_pos hl
theorem reject_Code_l1 (l : List V) (hl : l.length ≤ 5864062014700) (n : Int) (w : List Int) (a j q1 q2 : Int) (s : List S5) (c1 : List (ByteArray × ByteArray)) (c2 : List (Int × Int × Int × ByteArray × List (ByteArray × ByteArray))) (e : List Int) : ∀ (m : List V) (k i : Nat), l.drop i = m →
    reject_Code.l1 (k + m.length + 1) n w a j l (l.length : Int) (i : Int) q1 q2 s c1 c2 e l = if (getV n m).2 = true then some (getV n m).1 else reject_Code.l0 k w a (IntKind.wrap .i64 (j + 1)) q1 q2 s c1 c2 e l
  | [], k, i, hd => by
    have := dropn hd
    rw [reject_Code.l1_eq, if_neg (by omega)]; rfl
  | v :: m, k, i, hd => by
    obtain ⟨h1, h2, h3, h4⟩ := dropc hd
    rw [reject_Code.l1_eq, if_pos (by omega), h4, Option.bind_some, wrap_succ (by omega), getV]
    by_cases c : v.1 = n
    · rw [if_pos c, if_pos c]; rfl
    · rw [if_neg c, if_neg c, List.length_cons, ← Nat.add_assoc k m.length 1]
      exact reject_Code_l1 l hl n w a j q1 q2 s c1 c2 e m k (i + 1) h2
theorem getV_no {n : Int} {l : List V} (h : ¬ (getV n l).2 = true) : (getV n l).1 = sb [] := by
  rcases findV_get n l 0 with ⟨-, h2⟩ | ⟨k, -, h2, h3⟩
  · rw [h2]
  · rw [h3] at h; exact absurd rfl h
theorem reject_Code.run (q1 q2 : Int) (s : List S5) (c1 : List (ByteArray × ByteArray)) (c2 : List (Int × Int × Int × ByteArray × List (ByteArray × ByteArray))) (e : List Int) (l : List V) (hl : l.length ≤ 5864062014700) (n : Int) :
    call reject_Code.C Try.f36 reject_Code.code reject_Code.sg reject_Code.rs ((1 + l.length + 1 + 1) + l.length + 1 + 1) (((q1, q2, s), (c1, c2), e, l), n) = some (codeV n l) := by
  have r1 := reject_Code_l1 l hl n [n, 0] 2 0 q1 q2 s c1 c2 e l (1 + l.length + 1 + 1) 0 rfl
  have r2 := reject_Code_l1 l hl 0 [n, 0] 2 1 q1 q2 s c1 c2 e l 1 0 rfl
  have z1 : IntKind.wrap .i64 ((0 : Int) + 1) = 1 := wrap_nat (n := 1) (by decide)
  have z2 : IntKind.wrap .i64 ((1 : Int) + 1) = 2 := wrap_nat (n := 2) (by decide)
  have g0 : lget [n, 0] 0 = some n := rfl
  have g1 : lget [n, 0] 1 = some 0 := rfl
  have l2 : ((List.length [n, 0] : Nat) : Int) = 2 := rfl
  have e3 : reject_Code.l0 1 [n, 0] 2 2 q1 q2 s c1 c2 e l = some (sb []) := by rw [reject_Code.l0_eq, if_neg (by decide)]; rfl
  have e2 : reject_Code.l0 (1 + l.length + 1 + 1) [n, 0] 2 1 q1 q2 s c1 c2 e l = some (getV 0 l).1 := by
    rw [reject_Code.l0_eq, if_pos (by decide), g1, Option.bind_some]
    refine r2.trans ?_
    by_cases c : (getV 0 l).2 = true
    · rw [if_pos c]
    · rw [if_neg c, z2, e3, getV_no c]
  rw [reject_Code.eq, l2, reject_Code.l0_eq, if_pos (by decide), g0, Option.bind_some]
  refine r1.trans ?_
  unfold codeV
  by_cases c : (getV n l).2 = true
  · rw [if_pos c, if_pos c]
  · rw [if_neg c, if_neg c, z1, e2]
noncomputable def reject_Code.c : Con := ⟨36, reject_Code.sg, reject_Code.rs, reject_Code.f⟩
theorem reject_Code.con : ConOk Try.prog reject_Code.c := walked (C := reject_Code.C) rfl (by kernel_rfl) (by kernel_rfl) (by kernel_rfl) rfl trivial fun ⟨⟨⟨q1, q2, s⟩, ⟨c1, c2⟩, e, l⟩, n⟩ y h => by
  have h : reject_Code.f (((q1, q2, s), (c1, c2), e, l), n) = some y := h
  unfold reject_Code.f at h
  split at h
  · rename_i hl
    exact ⟨_, (reject_Code.run q1 q2 s c1 c2 e l hl n).trans h⟩
  · cases h
end Go.Proofs.Ytkhmdcllookjkaa.Xe
