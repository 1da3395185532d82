/- The law StrictPart. -/
import Derived.Test.YtjbhknfdfnilbaaA18
import Derived.Test.YtjbhknfdfnilbaaNgf
import Derived.Test.YtjbhknfdfnilbaaLdM
import Derived.Test.YtjbhknfdfnilbaaXop
namespace Go.Proofs.Ytjbhknfdfnilbaa.Xe
open Go Go.RowKit Go.Proofs.Ytjbhknfdfnilbaa.Sp
set_option linter.unusedVariables false
set_option linter.unusedSimpArgs false
set_option maxRecDepth 100000
/-! ### groatlaw18_StrictPart -/
@[reducible] def groatlaw18_StrictPart.sg : List Shp := [.a (.pair (.int .i64) (.pair (.int .i64) (.sl (.pair (.int .i64) (.pair (.int .i64) (.pair (.int .i64) (.pair (.int .i64) (.int .i64)))))))), .v (.str)]
@[reducible] def groatlaw18_StrictPart.rs : Rs := .one (.v (.bool))
@[reducible] noncomputable def groatlaw18_StrictPart.code : Code := Try.f9.body.getD .skip
noncomputable def groatlaw18_StrictPart.C : Ctx := ⟨tab, [groatlaw18_awake.c, strict_Decode.c, msg_Check.c], [], ⟨[(9, [6, 52, 53, 54], 3)], []⟩⟩
noncomputable def groatlaw18_StrictPart.l0 (n : Nat) (v0 : List ((Int × ByteArray))) (v1 : Int) (v2 : Int) (v3 : Int) (v4 : Int) (v5 : List ((Int × (Int × (Int × (Int × Int)))))) (v6 : ByteArray) (v7 : List ((Int × ByteArray))) (v8 : Int) (v9 : Int) : Option Bool := run groatlaw18_StrictPart.C (finOf groatlaw18_StrictPart.C Try.f9 groatlaw18_StrictPart.rs) n (todoAt 9 groatlaw18_StrictPart.code) ⟨[.junk, .junk, .junk, .junk, .junk, .junk, .ptr 2 0, .junk, .junk, .junk, .junk, .junk, .junk, .junk, .junk, .junk, .junk, .junk, .junk, .junk, .junk, .junk, .junk, .junk, .junk, .junk, .junk, .junk, .junk, .junk, .junk, .junk, .junk, .junk, .junk, .junk, .junk, .junk, .junk, .junk, .junk, .junk, .junk, .junk, .junk, .junk, .junk, .junk, .junk, .junk, .junk, .junk, .sl none (.pair (.int .i64) (.str)) v0, .int .i64 v1, .int .i64 v2, .junk, .junk, .junk, .junk, .junk, .junk, .junk, .junk, .junk, .junk, .junk, .junk, .junk, .junk], [[.int .i64 v3, .int .i64 v4, .sl none (.pair (.int .i64) (.pair (.int .i64) (.pair (.int .i64) (.pair (.int .i64) (.int .i64))))) v5], [.str v6, .sl none (.pair (.int .i64) (.str)) v7], [.int .i64 v8, .int .i64 v9]], []⟩
-- the loop at region 9
theorem groatlaw18_StrictPart.l0_eq (n : Nat) (v0 : List ((Int × ByteArray))) (v1 : Int) (v2 : Int) (v3 : Int) (v4 : Int) (v5 : List ((Int × (Int × (Int × (Int × Int)))))) (v6 : ByteArray) (v7 : List ((Int × ByteArray))) (v8 : Int) (v9 : Int) : groatlaw18_StrictPart.l0 (n + 1) v0 v1 v2 v3 v4 v5 v6 v7 v8 v9 =
  (if v2 < v1 then ((lget v0 v2).bind fun b6 =>
   (if ¬v8 = 0 then (if Prod.fst b6 ≥ v9 then (some false)
    else (groatlaw18_StrictPart.l0 n v0 v1 (IntKind.wrap IntKind.i64 (v2 + 1)) v3 v4 v5 v6 v7 v8 v9))
   else (groatlaw18_StrictPart.l0 n v0 v1 (IntKind.wrap IntKind.i64 (v2 + 1)) v3 v4 v5 v6 v7 v8 v9)))
  else (some true)) := by kernel_rfl
theorem groatlaw18_StrictPart.eq (n : Nat) (a0 : Int) (a1 : Int) (a2 : List ((Int × (Int × (Int × (Int × Int)))))) (a3 : ByteArray) : call groatlaw18_StrictPart.C Try.f9 groatlaw18_StrictPart.code groatlaw18_StrictPart.sg groatlaw18_StrictPart.rs n ((a0, (a1, a2)), a3) =
  ((groatlaw18_awake.f ()).bind fun b0 =>
  (if ¬b0 = true then ((groatlaw18_awake.f ()).bind fun b1 =>
   (some (decide (b1 = true))))
  else (if (↑(List.length a2) : Int) > 200 then ((groatlaw18_awake.f ()).bind fun b2 =>
    (some (decide (b2 = true))))
   else (if (↑(ByteArray.size a3) : Int) > 3000 then ((groatlaw18_awake.f ()).bind fun b3 =>
     (some (decide (b3 = true))))
    else ((strict_Decode.f ((a0, a1, a2), a3)).bind fun b4 =>
     (if Prod.fst (Prod.fst b4) = ByteArray.mk #[] then (if (↑(List.length (Prod.snd (Prod.fst b4))) : Int) = 0 then (if ¬Prod.fst (Prod.snd b4) = 0 then (some (decide (Prod.snd (Prod.snd b4) ≤ 0)))
       else (some false))
      else (some false))
     else ((msg_Check.f ((a0, a1, a2), Prod.fst b4)).bind fun b5 =>
      (if ¬(Prod.fst b5 = 0 ∧ Prod.snd b5 = 0 ∧ True) then (some false)
      else (groatlaw18_StrictPart.l0 n (Prod.snd (Prod.fst b4)) ((↑(List.length (Prod.snd (Prod.fst b4))) : Int)) 0 a0 a1 a2 (Prod.fst (Prod.fst b4)) (Prod.snd (Prod.fst b4)) (Prod.fst (Prod.snd b4)) (Prod.snd (Prod.snd b4))))))))))) := by kernel_rfl
theorem groatlaw18_StrictPart.ok : CtxOk Try.prog groatlaw18_StrictPart.C := ⟨AllOk.all (show AllOk groatlaw18_StrictPart.C.G from ⟨groatlaw18_awake.con, strict_Decode.con, msg_Check.con, trivial⟩), fun c hc => absurd (show c ∈ ([] : List ConS) from hc) (by simp)⟩
theorem groatlaw18_StrictPart_l (a b : Int) (s : List S5) (t : ByteArray) (l : List V) (e f : Int) (hl : l.length ≤ 128) (h : e ≠ 0 → ∀ v ∈ l, v.1 < f) : ∀ (m : List V) (k i : Nat), l.drop i = m → m.length < k → groatlaw18_StrictPart.l0 k l (l.length : Int) (i : Int) a b s t l e f = some true
  | [], k, i, hd, hk => by
    obtain ⟨k, rfl⟩ : ∃ m, k = m + 1 := ⟨k - 1, by omega⟩
    have := dropn hd
    rw [groatlaw18_StrictPart.l0_eq, if_neg (by omega)]
  | v :: m, k, i, hd, hk => by
    obtain ⟨k, rfl⟩ : ∃ m, k = m + 1 := ⟨k - 1, by omega⟩
    obtain ⟨h1, h2, h3, h4⟩ := dropc hd
    have hk' : m.length < k := by simp at hk; omega
    have ih := groatlaw18_StrictPart_l a b s t l e f hl h m k (i + 1) h2 hk'
    have hv : v ∈ l := List.mem_of_mem_drop (by rw [hd]; exact List.mem_cons_self ..)
    rw [groatlaw18_StrictPart.l0_eq, if_pos (by omega), h4, Option.bind_some, wrap_succ (by omega), ih]
    by_cases c : e = 0
    · rw [if_neg (not_not_intro c)]
    · have := h c v hv
      rw [if_pos c, if_neg (show ¬ v.1 ≥ f by omega)]
theorem groatlaw18_StrictPart.holds (x : (Int × Int × List S5) × ByteArray) (w : Wf (sgTy groatlaw18_StrictPart.sg) x) : ∃ n, call groatlaw18_StrictPart.C Try.f9 groatlaw18_StrictPart.code groatlaw18_StrictPart.sg groatlaw18_StrictPart.rs n x = some true := by
  obtain ⟨⟨a, b, s⟩, z⟩ := x
  obtain ⟨z, rfl⟩ := ex_sb z
  refine ⟨300, ?_⟩
  rw [groatlaw18_StrictPart.eq]
  simp only [groatlaw18_awake.f, Option.bind_some, not_true_eq_false, if_false]
  by_cases c : (s.length : Int) > 200
  · rw [if_pos c]; simp
  rw [if_neg c, size_sb]
  by_cases c2 : (z.length : Int) > 3000
  · rw [if_pos c2]; simp
  have hs : s.length ≤ 1000000 := by omega
  have hl := decM_okM (a, b, s) z (by omega)
  rw [if_neg c2, strict_Decode a b s hs z (by omega), Option.bind_some]
  dsimp only
  by_cases h : (decM (a, b, s) z).1.1 = []
  · rw [if_pos (show sb (decM (a, b, s) z).1.1 = ByteArray.mk #[] by rw [h]; rfl)]
    rcases decM_cases (a, b, s) z with ⟨h1, h2, h3⟩ | ⟨-, h2, -⟩
    · rw [h1, if_pos (by rfl), if_pos h2, decide_eq_true h3]
    · rw [h] at h2; cases h2
  · obtain ⟨h1, h2⟩ := decM_part h
    rw [if_neg (show ¬ sb (decM (a, b, s) z).1.1 = ByteArray.mk #[] from fun e => h (sb_inj (b := []) e)), msg_Check a b s _ _ hs hl, Option.bind_some, h1, if_neg (not_not_intro ⟨rfl, rfl, trivial⟩)]
    have hn : (decM (a, b, s) z).1.2.length ≤ 128 := decM_len (a, b, s) z
    exact groatlaw18_StrictPart_l a b s (sb (decM (a, b, s) z).1.1) (decM (a, b, s) z).1.2 (decM (a, b, s) z).2.1 (decM (a, b, s) z).2.2 hn h2 _ 300 0 rfl (by rw [List.drop_zero]; omega)
end Go.Proofs.Ytjbhknfdfnilbaa.Xe
