/- What the reference's functions on messages answer. -/
import Derived.Test.YtkaihbkfobiejaaGreatDoorEms
namespace Go.Proofs.YtkaihbkfobiejaaGreatDoor.Xe
open Go Go.RowKit Go.Proofs.YtkaihbkfobiejaaGreatDoor.Sp
set_option linter.unusedVariables false
set_option linter.unusedSimpArgs false
set_option maxRecDepth 100000
/-! ### groatref16_Great -/
@[reducible] def groatref16_Great.sg : List Shp := [.a (.pair (.str) (.sl (.pair (.int .i64) (.str))))]
@[reducible] def groatref16_Great.rs : Rs := .one (.v (.bool))
@[reducible] noncomputable def groatref16_Great.code : Code := Tryz.f10.body.getD .skip
noncomputable def groatref16_Great.C : Ctx := ⟨tab, [], [], ⟨[(4, [1, 3], 1)], []⟩⟩
noncomputable def groatref16_Great.l0 (n : Nat) (v0 : Int) (v1 : ByteArray) (v2 : List ((Int × ByteArray))) : Option Bool := run groatref16_Great.C (finOf groatref16_Great.C Tryz.f10 groatref16_Great.rs) n (todoAt 4 groatref16_Great.code) ⟨[.junk, .ptr 0 0, .junk, .int .i64 v0, .junk, .junk, .junk, .junk, .junk, .junk, .junk, .junk, .junk, .junk, .junk, .junk, .junk, .junk, .junk, .junk, .junk, .junk, .junk, .junk, .junk, .junk, .junk, .junk, .junk], [[.str v1, .sl none (.pair (.int .i64) (.str)) v2]], []⟩
-- the loop at region 4
theorem groatref16_Great.l0_eq (n : Nat) (v0 : Int) (v1 : ByteArray) (v2 : List ((Int × ByteArray))) : groatref16_Great.l0 (n + 1) v0 v1 v2 =
  (if v0 < (↑(List.length v2) : Int) then ((lget v2 v0).bind fun b0 =>
   (if (↑(ByteArray.size (Prod.snd b0)) : Int) > 1200 then (some true)
   else (groatref16_Great.l0 n (IntKind.wrap IntKind.i64 (v0 + 1)) v1 v2)))
  else (some false)) := by kernel_rfl
theorem groatref16_Great.eq (n : Nat) (a0 : ByteArray) (a1 : List ((Int × ByteArray))) : call groatref16_Great.C Tryz.f10 groatref16_Great.code groatref16_Great.sg groatref16_Great.rs n (a0, a1) =
  (if (↑(ByteArray.size a0) : Int) > 100 then (some true)
  else (if (↑(List.length a1) : Int) > 200 then (some true)
   else (groatref16_Great.l0 n 0 a0 a1))) := by kernel_rfl
def groatref16_Great.f (x : ByteArray × List V) : Option Bool := some (great x.1 x.2)
theorem groatref16_Great_l (t : ByteArray) (l : List V) (hl : l.length ≤ 200) : ∀ (m : List V) (k i : Nat), l.drop i = m → m.length < k → groatref16_Great.l0 k (i : Int) t l = some (m.any fun v => decide (1200 < v.2.size))
  | [], k, i, hd, hk => by
    obtain ⟨k, rfl⟩ : ∃ m, k = m + 1 := ⟨k - 1, by omega⟩
    have := dropn hd
    rw [groatref16_Great.l0_eq, if_neg (by omega)]; rfl
  | v :: m, k, i, hd, hk => by
    obtain ⟨k, rfl⟩ : ∃ m, k = m + 1 := ⟨k - 1, by omega⟩
    obtain ⟨e1, e2, e3, e4⟩ := dropc hd
    have hk' : m.length < k := by simp at hk; omega
    rw [groatref16_Great.l0_eq, if_pos (by omega), e4, Option.bind_some, wrap_succ (by omega), groatref16_Great_l t l hl m k (i + 1) e2 hk', List.any_cons]
    by_cases c : 1200 < v.2.size
    · rw [if_pos (by omega), decide_eq_true c]; rfl
    · rw [if_neg (by omega), decide_eq_false c]; rfl
theorem groatref16_Great (t : ByteArray) (l : List V) : groatref16_Great.f (t, l) = some (great t l) := rfl
noncomputable def groatref16_Great.c : Con := ⟨10, groatref16_Great.sg, groatref16_Great.rs, groatref16_Great.f⟩
theorem groatref16_Great.con : ConOk Tryz.prog groatref16_Great.c := walked (C := groatref16_Great.C) rfl (by kernel_rfl) (by kernel_rfl) (by kernel_rfl) rfl trivial fun ⟨t, l⟩ y h => by
  have h : groatref16_Great.f (t, l) = some y := h
  rw [groatref16_Great] at h
  refine ⟨l.length + 1, ?_⟩
  rw [groatref16_Great.eq, ← h, great]
  by_cases c1 : (t.size : Int) > 100
  · rw [if_pos c1, decide_eq_true (by omega : 100 < t.size)]; rfl
  · rw [if_neg c1, decide_eq_false (by omega : ¬ 100 < t.size), Bool.false_or]
    by_cases c2 : (List.length (α := V) l : Int) > 200
    · rw [if_pos c2, decide_eq_true (by omega : 200 < List.length (α := V) l)]; rfl
    · rw [if_neg c2, decide_eq_false (by omega : ¬ 200 < List.length (α := V) l), Bool.false_or]
      exact groatref16_Great_l t l (by omega) l _ 0 rfl (by omega)
/-! ### groatref16_Same -/
@[reducible] def groatref16_Same.sg : List Shp := [.a (.pair (.str) (.sl (.pair (.int .i64) (.str)))), .a (.pair (.str) (.sl (.pair (.int .i64) (.str))))]
@[reducible] def groatref16_Same.rs : Rs := .one (.v (.bool))
@[reducible] noncomputable def groatref16_Same.code : Code := Tryz.f14.body.getD .skip
noncomputable def groatref16_Same.C : Ctx := ⟨tab, [], [], ⟨[(4, [2, 3, 5], 2)], []⟩⟩
noncomputable def groatref16_Same.l0 (n : Nat) (v0 : Int) (v1 : ByteArray) (v2 : List ((Int × ByteArray))) (v3 : ByteArray) (v4 : List ((Int × ByteArray))) : Option Bool := run groatref16_Same.C (finOf groatref16_Same.C Tryz.f14 groatref16_Same.rs) n (todoAt 4 groatref16_Same.code) ⟨[.junk, .junk, .ptr 0 0, .ptr 1 0, .junk, .int .i64 v0, .junk, .junk, .junk, .junk, .junk, .junk, .junk, .junk, .junk, .junk, .junk, .junk, .junk, .junk, .junk, .junk, .junk, .junk, .junk, .junk, .junk, .junk, .junk, .junk, .junk, .junk, .junk, .junk, .junk, .junk, .junk, .junk], [[.str v1, .sl none (.pair (.int .i64) (.str)) v2], [.str v3, .sl none (.pair (.int .i64) (.str)) v4]], []⟩
-- the loop at region 4
theorem groatref16_Same.l0_eq (n : Nat) (v0 : Int) (v1 : ByteArray) (v2 : List ((Int × ByteArray))) (v3 : ByteArray) (v4 : List ((Int × ByteArray))) : groatref16_Same.l0 (n + 1) v0 v1 v2 v3 v4 =
  (if v0 < (↑(List.length v2) : Int) then ((lget v2 v0).bind fun b0 =>
   ((lget v4 v0).bind fun b1 =>
   (if ¬(Prod.fst b0 = Prod.fst b1 ∧ Prod.snd b0 = Prod.snd b1 ∧ True) then (some false)
   else (groatref16_Same.l0 n (IntKind.wrap IntKind.i64 (v0 + 1)) v1 v2 v3 v4))))
  else (some true)) := by kernel_rfl
theorem groatref16_Same.eq (n : Nat) (a0 : ByteArray) (a1 : List ((Int × ByteArray))) (a2 : ByteArray) (a3 : List ((Int × ByteArray))) : call groatref16_Same.C Tryz.f14 groatref16_Same.code groatref16_Same.sg groatref16_Same.rs n ((a0, a1), (a2, a3)) =
  (if ¬a0 = a2 then (some false)
  else (if ¬(↑(List.length a1) : Int) = (↑(List.length a3) : Int) then (some false)
   else (groatref16_Same.l0 n 0 a0 a1 a2 a3))) := by kernel_rfl
def groatref16_Same.f (x : (ByteArray × List V) × ByteArray × List V) : Option Bool := if x.1.2.length ≤ 1000000 then some (decide (x.1 = x.2)) else none
theorem groatref16_Same (t u : ByteArray) (l m : List V) (hl : l.length ≤ 1000000) : groatref16_Same.f ((t, l), u, m) = some (decide ((t, l) = (u, m))) := if_pos hl
theorem groatref16_Same_l (t u : ByteArray) (l m : List V) (hl : l.length ≤ 1000000) (hm : m.length = l.length) : ∀ (p q : List V) (k i : Nat), l.drop i = p → m.drop i = q → p.length < k → groatref16_Same.l0 k (i : Int) t l u m = some (decide (p = q))
  | [], q, k, i, h1, h2, hk => by
    obtain ⟨k, rfl⟩ : ∃ m, k = m + 1 := ⟨k - 1, by omega⟩
    have := dropn h1
    have : q = [] := by rw [← h2]; exact List.drop_of_length_le (by omega)
    subst this
    rw [groatref16_Same.l0_eq, if_neg (by omega)]; rfl
  | v :: p, q, k, i, h1, h2, hk => by
    obtain ⟨k, rfl⟩ : ∃ m, k = m + 1 := ⟨k - 1, by omega⟩
    obtain ⟨e1, e2, e3, e4⟩ := dropc h1
    have hk' : p.length < k := by simp at hk; omega
    cases q with
    | nil => have := dropn h2; omega
    | cons w q =>
      obtain ⟨f1, f2, f3, f4⟩ := dropc h2
      rw [groatref16_Same.l0_eq, if_pos (by omega), e4, Option.bind_some, f4, Option.bind_some, wrap_succ (by omega), groatref16_Same_l t u l m hl hm p q k (i + 1) e2 f2 hk']
      by_cases c : v = w
      · subst c
        rw [if_neg (fun e => e ⟨rfl, rfl, trivial⟩)]
        congr 1
        exact decide_eq_decide.2 (by simp)
      · rw [if_pos (fun e => c (Prod.ext e.1 e.2.1))]
        congr 1
        exact (decide_eq_false (by simp [c])).symm
noncomputable def groatref16_Same.c : Con := ⟨14, groatref16_Same.sg, groatref16_Same.rs, groatref16_Same.f⟩
theorem groatref16_Same.con : ConOk Tryz.prog groatref16_Same.c := walked (C := groatref16_Same.C) rfl (by kernel_rfl) (by kernel_rfl) (by kernel_rfl) rfl trivial fun ⟨⟨t, l⟩, u, m⟩ y h => by
  have h : groatref16_Same.f ((t, l), u, m) = some y := h
  unfold groatref16_Same.f at h
  split at h
  · rename_i hc
    refine ⟨l.length + 1, ?_⟩
    rw [groatref16_Same.eq, ← h]
    by_cases c0 : t = u
    · subst c0
      rw [if_neg (not_not_intro rfl)]
      by_cases c : (l.length : Int) = (m.length : Int)
      · rw [if_neg (not_not_intro c)]
        refine (groatref16_Same_l t t l m hc (by omega) l m _ 0 rfl rfl (by omega)).trans ?_
        congr 1
        exact decide_eq_decide.2 (by simp)
      · rw [if_pos c]
        congr 1
        exact (decide_eq_false fun e => c (by rw [show l = m from (Prod.ext_iff.1 e).2])).symm
    · rw [if_pos c0]
      congr 1
      exact (decide_eq_false fun e => c0 (Prod.ext_iff.1 e).1).symm
  · cases h
end Go.Proofs.YtkaihbkfobiejaaGreatDoor.Xe
