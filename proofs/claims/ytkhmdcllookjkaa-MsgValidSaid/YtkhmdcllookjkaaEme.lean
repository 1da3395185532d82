/- What the program's functions that compare messages answer. -/
import Derived.Test.YtkhmdcllookjkaaEms
namespace Go.Proofs.Ytkhmdcllookjkaa.Xe
open Go Go.RowKit Go.Proofs.Ytkhmdcllookjkaa.Sp
set_option linter.unusedVariables false
set_option linter.unusedSimpArgs false
set_option maxRecDepth 100000
/-! ### slices_Equal -/
@[reducible] def slices_Equal.sg : List Shp := [.v (.sl (.pair (.int .i64) (.str))), .v (.sl (.pair (.int .i64) (.str)))]
@[reducible] def slices_Equal.rs : Rs := .one (.v (.bool))
@[reducible] noncomputable def slices_Equal.code : Code := Try.f54.body.getD .skip
noncomputable def slices_Equal.C : Ctx := ⟨tab, [], [], ⟨[(4, [0, 1, 12, 13], 0)], []⟩⟩
noncomputable def slices_Equal.l0 (n : Nat) (v0 : List ((Int × ByteArray))) (v1 : List ((Int × ByteArray))) (v2 : Int) (v3 : Int) : Option Bool := run slices_Equal.C (finOf slices_Equal.C Try.f54 slices_Equal.rs) n (todoAt 4 slices_Equal.code) ⟨[.sl none (.pair (.int .i64) (.str)) v0, .sl none (.pair (.int .i64) (.str)) v1, .junk, .junk, .junk, .junk, .junk, .junk, .junk, .junk, .junk, .junk, .int .i64 v2, .int .i64 v3, .junk, .junk, .junk, .junk, .junk, .junk, .junk, .junk, .junk, .junk, .junk, .junk], [], []⟩
-- the loop at region 4
theorem slices_Equal.l0_eq (n : Nat) (v0 : List ((Int × ByteArray))) (v1 : List ((Int × ByteArray))) (v2 : Int) (v3 : Int) : slices_Equal.l0 (n + 1) v0 v1 v2 v3 =
  (if v3 < v2 then ((lget v0 v3).bind fun b0 =>
   ((lget v1 v3).bind fun b1 =>
   (if ¬(Prod.fst b0 = Prod.fst b1 ∧ Prod.snd b0 = Prod.snd b1 ∧ True) then (some false)
   else (slices_Equal.l0 n v0 v1 v2 (IntKind.wrap IntKind.i64 (v3 + 1))))))
  else (some true)) := by kernel_rfl
theorem slices_Equal.eq (n : Nat) (a0 : List ((Int × ByteArray))) (a1 : List ((Int × ByteArray))) : call slices_Equal.C Try.f54 slices_Equal.code slices_Equal.sg slices_Equal.rs n (a0, a1) =
  (if ¬(↑(List.length a0) : Int) = (↑(List.length a1) : Int) then (some false)
  else (slices_Equal.l0 n a0 a1 ((↑(List.length a0) : Int)) 0)) := by kernel_rfl
def slices_Equal.f (x : List V × List V) : Option Bool := if x.1.length ≤ 1000000 then some (decide (x.1 = x.2)) else none
theorem slices_Equal (l m : List V) (hl : l.length ≤ 1000000) : slices_Equal.f (l, m) = some (decide (l = m)) := if_pos hl
theorem slices_Equal_l (l m : List V) (hl : l.length ≤ 1000000) (hm : m.length = l.length) : ∀ (p q : List V) (k i : Nat), l.drop i = p → m.drop i = q → p.length < k → slices_Equal.l0 k l m (l.length : Int) (i : Int) = some (decide (p = q))
  | [], q, k, i, h1, h2, hk => by
    obtain ⟨k, rfl⟩ : ∃ m, k = m + 1 := ⟨k - 1, by omega⟩
    have := dropn h1
    have : q = [] := by rw [← h2]; exact List.drop_of_length_le (by omega)
    subst this
    rw [slices_Equal.l0_eq, if_neg (by omega)]; rfl
  | v :: p, q, k, i, h1, h2, hk => by
    obtain ⟨k, rfl⟩ : ∃ m, k = m + 1 := ⟨k - 1, by omega⟩
    obtain ⟨e1, e2, e3, e4⟩ := dropc h1
    have hk' : p.length < k := by simp at hk; omega
    cases q with
    | nil => have := dropn h2; omega
    | cons u q =>
      obtain ⟨f1, f2, f3, f4⟩ := dropc h2
      rw [slices_Equal.l0_eq, if_pos (by omega), e4, Option.bind_some, f4, Option.bind_some, wrap_succ (by omega), slices_Equal_l l m hl hm p q k (i + 1) e2 f2 hk']
      by_cases c : v = u
      · subst c
        rw [if_neg (fun e => e ⟨rfl, rfl, trivial⟩)]
        congr 1
        exact decide_eq_decide.2 (by simp)
      · rw [if_pos (fun e => c (Prod.ext e.1 e.2.1))]
        congr 1
        exact (decide_eq_false (by simp [c])).symm
noncomputable def slices_Equal.c : Con := ⟨54, slices_Equal.sg, slices_Equal.rs, slices_Equal.f⟩
theorem slices_Equal.con : ConOk Try.prog slices_Equal.c := walked (C := slices_Equal.C) rfl (by kernel_rfl) (by kernel_rfl) (by kernel_rfl) rfl trivial fun ⟨l, m⟩ y h => by
  have h : slices_Equal.f (l, m) = some y := h
  unfold slices_Equal.f at h
  split at h
  · rename_i hc
    refine ⟨l.length + 1, ?_⟩
    rw [slices_Equal.eq, ← h]
    by_cases c : (l.length : Int) = (m.length : Int)
    · rw [if_neg (not_not_intro c)]
      exact slices_Equal_l l m hc (by omega) l m _ 0 rfl rfl (by omega)
    · rw [if_pos c]
      congr 1
      exact (decide_eq_false fun e => c (by rw [show l = m from e])).symm
  · cases h
/-! ### msg_Same -/
@[reducible] def msg_Same.sg : List Shp := [.a (.pair (.str) (.sl (.pair (.int .i64) (.str)))), .a (.pair (.str) (.sl (.pair (.int .i64) (.str))))]
@[reducible] def msg_Same.rs : Rs := .one (.v (.bool))
@[reducible] noncomputable def msg_Same.code : Code := Try.f25.body.getD .skip
noncomputable def msg_Same.C : Ctx := ⟨tab, [slices_Equal.c], [], ⟨[], []⟩⟩
theorem msg_Same.eq (n : Nat) (a0 : ByteArray) (a1 : List ((Int × ByteArray))) (a2 : ByteArray) (a3 : List ((Int × ByteArray))) : call msg_Same.C Try.f25 msg_Same.code msg_Same.sg msg_Same.rs n ((a0, a1), (a2, a3)) =
  (if a0 = a2 then ((slices_Equal.f (a1, a3)).bind fun b0 =>
   (some (decide (b0 = true))))
  else (some false)) := by kernel_rfl
noncomputable def msg_Same.f : El (sgTy msg_Same.sg) → Option (El msg_Same.rs.ty) := fun x => match x with
  | ((a0, a1), (a2, a3)) =>
  (if a0 = a2 then ((slices_Equal.f (a1, a3)).bind fun b0 =>
   (some (decide (b0 = true))))
  else (some false))
noncomputable def msg_Same.c : Con := ⟨25, msg_Same.sg, msg_Same.rs, msg_Same.f⟩
theorem msg_Same.con : ConOk Try.prog msg_Same.c := walked (C := msg_Same.C) rfl (by kernel_rfl) (by kernel_rfl) (by kernel_rfl) rfl ⟨slices_Equal.con, trivial⟩ fun ⟨⟨a0, a1⟩, ⟨a2, a3⟩⟩ y h => ⟨0, (msg_Same.eq 0 a0 a1 a2 a3).trans h⟩
theorem msg_Same (t u : ByteArray) (l m : List V) (hl : l.length ≤ 1000000) : msg_Same.f ((t, l), u, m) = some (decide (t = u ∧ l = m)) := by
  simp only [msg_Same.f]
  rw [slices_Equal l m hl, Option.bind_some]
  by_cases c : t = u <;> simp [c]
end Go.Proofs.Ytkhmdcllookjkaa.Xe
