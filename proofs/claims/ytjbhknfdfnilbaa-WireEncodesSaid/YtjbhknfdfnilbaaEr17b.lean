/- What the reference's Bytes of a message answers. -/
import Derived.Test.YtjbhknfdfnilbaaEr17
import Derived.Test.YtjbhknfdfnilbaaEr13
import Derived.Test.YtjbhknfdfnilbaaEr06g
import Derived.Test.YtjbhknfdfnilbaaEr16
import Derived.Test.YtjbhknfdfnilbaaNgf
namespace Go.Proofs.Ytjbhknfdfnilbaa.Xe
open Go Go.RowKit Go.Proofs.Ytjbhknfdfnilbaa.Sp
set_option linter.unusedVariables false
set_option linter.unusedSimpArgs false
set_option maxRecDepth 100000
/-! ### groatref17_Bytes -/
@[reducible] def groatref17_Bytes.sg : List Shp := [.a (.pair (.int .i64) (.pair (.int .i64) (.sl (.pair (.int .i64) (.pair (.int .i64) (.pair (.int .i64) (.pair (.int .i64) (.int .i64)))))))), .a (.pair (.str) (.sl (.pair (.int .i64) (.str))))]
@[reducible] def groatref17_Bytes.rs : Rs := .one (.v (.str))
@[reducible] noncomputable def groatref17_Bytes.code : Code := Try.f22.body.getD .skip
noncomputable def groatref17_Bytes.C : Ctx := ⟨tab, [groatref17_Type.c, groatref13_Find.c, groatref06_Put.c, groatref16_Numbers.c, groatref12_Put.c], [], ⟨[(4, [2, 3, 7, 8], 2)], []⟩⟩
noncomputable def groatref17_Bytes.l0 (n : Nat) (v0 : ByteArray) (v1 : Int) (v2 : Int) (v3 : Int) (v4 : List ((Int × (Int × (Int × (Int × Int)))))) (v5 : ByteArray) (v6 : List ((Int × ByteArray))) : Option ByteArray := run groatref17_Bytes.C (finOf groatref17_Bytes.C Try.f22 groatref17_Bytes.rs) n (todoAt 4 groatref17_Bytes.code) ⟨[.junk, .junk, .ptr 0 0, .ptr 1 0, .junk, .junk, .junk, .str v0, .int .i64 v1, .junk, .junk, .junk, .junk, .junk, .junk, .junk, .junk, .junk, .junk, .junk, .junk, .junk, .junk, .junk, .junk, .junk, .junk, .junk, .junk, .junk, .junk, .junk, .junk, .junk, .junk, .junk, .junk, .junk, .junk, .junk, .junk, .junk, .junk, .junk, .junk, .junk, .junk, .junk, .junk, .junk, .junk, .junk, .junk, .junk, .junk, .junk, .junk, .junk, .junk, .junk, .junk], [[.int .i64 v2, .int .i64 v3, .sl none (.pair (.int .i64) (.pair (.int .i64) (.pair (.int .i64) (.pair (.int .i64) (.int .i64))))) v4], [.str v5, .sl none (.pair (.int .i64) (.str)) v6]], []⟩
-- the loop at region 4
theorem groatref17_Bytes.l0_eq (n : Nat) (v0 : ByteArray) (v1 : Int) (v2 : Int) (v3 : Int) (v4 : List ((Int × (Int × (Int × (Int × Int)))))) (v5 : ByteArray) (v6 : List ((Int × ByteArray))) : groatref17_Bytes.l0 (n + 1) v0 v1 v2 v3 v4 v5 v6 =
  (if v1 < (↑(List.length v6) : Int) then ((lget v6 v1).bind fun b4 =>
   ((groatref13_Find.f ((v2, v3, v4), Prod.fst b4)).bind fun b5 =>
   ((lget v4 b5).bind fun b6 =>
   ((lget v6 v1).bind fun b7 =>
   ((groatref12_Put.f (v2, b6, Prod.snd b7)).bind fun b8 =>
   ((scat v0 (Prod.fst b8)).bind fun b9 =>
   (groatref17_Bytes.l0 n b9 (IntKind.wrap IntKind.i64 (v1 + 1)) v2 v3 v4 v5 v6)))))))
  else (some v0)) := by kernel_rfl
theorem groatref17_Bytes.eq (n : Nat) (a0 : Int) (a1 : Int) (a2 : List ((Int × (Int × (Int × (Int × Int)))))) (a3 : ByteArray) (a4 : List ((Int × ByteArray))) : call groatref17_Bytes.C Try.f22 groatref17_Bytes.code groatref17_Bytes.sg groatref17_Bytes.rs n ((a0, (a1, a2)), (a3, a4)) =
  ((groatref16_Numbers.f (a3, a4)).bind fun b0 =>
  ((groatref06_Put.f (a0, b0)).bind fun b1 =>
  ((groatref17_Type.f (a0, a3)).bind fun b2 =>
  ((scat b2 (Prod.fst b1)).bind fun b3 =>
  (groatref17_Bytes.l0 n b3 0 a0 a1 a2 a3 a4))))) := by kernel_rfl
noncomputable def groatref17_Bytes.f (x : (Int × Int × List S5) × ByteArray × List V) : Option ByteArray := if x.1.2.2.length ≤ 1000000 ∧ x.2.2.length ≤ 300 ∧ msgE x.1 (bl x.2.1) x.2.2 = (0, 0) then some (sb (wireB x.1.1 x.1.2.2 (bl x.2.1) x.2.2)) else none
theorem groatref17_Bytes (a b : Int) (s : List S5) (hs : s.length ≤ 1000000) (t : List UInt8) (l : List V) (hl : l.length ≤ 300) (h : msgE (a, b, s) t l = (0, 0)) : groatref17_Bytes.f ((a, b, s), sb t, l) = some (sb (wireB a s t l)) := if_pos ⟨hs, hl, h⟩
theorem groatref17_Bytes_l (a b : Int) (ha : a = 1 ∨ a = 2) (s : List S5) (hs : s.length ≤ 1000000) (t : ByteArray) (l : List V) (hl : l.length ≤ 300) : ∀ (m : List V) (p : Int) (o : List UInt8) (k i : Nat), l.drop i = m → Rise s p m → o.length ≤ 100 + 3000 * i → m.length < k →
    groatref17_Bytes.l0 k (sb o) (i : Int) a b s t l = some (sb (o ++ fieldsB a s m))
  | [], p, o, k, i, hd, hr, ho, hk => by
    obtain ⟨k, rfl⟩ : ∃ m, k = m + 1 := ⟨k - 1, by omega⟩
    have := dropn hd
    rw [groatref17_Bytes.l0_eq, if_neg (by omega)]
    show some (sb o) = some (sb (o ++ []))
    rw [List.append_nil]
  | v :: m, p, o, k, i, hd, hr, ho, hk => by
    obtain ⟨k, rfl⟩ : ∃ m, k = m + 1 := ⟨k - 1, by omega⟩
    obtain ⟨h1, h2, h3, h4⟩ := dropc hd
    have hk' : m.length < k := by simp at hk; omega
    cases hr with
    | cons r1 r2 r3 =>
      have hb : (cellB a s v).length ≤ 3000 := cellPut_length ..
      have hc : groatref12_Put.f (a, (findS v.1 s).1, v.2) = some (sb (cellB a s v), 0) := by
        have := groatref12_Put a (findS v.1 s).1.1 (findS v.1 s).1.2.1 (findS v.1 s).1.2.2.1 (findS v.1 s).1.2.2.2.1 (findS v.1 s).1.2.2.2.2 (bl v.2) ha r2.2
        rw [sb_bl] at this
        exact this
      rw [groatref17_Bytes.l0_eq, if_pos (by omega), h4, Option.bind_some, groatref13_Find a b s hs, Option.bind_some]
      rcases idxS_find v.1 s s 0 rfl with ⟨-, q2⟩ | ⟨-, -, q3⟩
      · rw [r2.1] at q2; cases q2
      · rw [q3, Option.bind_some, Option.bind_some]
        try dsimp only
        rw [hc, Option.bind_some]
        try dsimp only
        rw [scat_sb _ _ (by omega), Option.bind_some, wrap_succ (by omega), groatref17_Bytes_l a b ha s hs t l hl m v.1 (o ++ cellB a s v) k (i + 1) h2 r3 (by rw [List.length_append]; omega) hk']
        unfold fieldsB
        rw [List.flatMap_cons, List.append_assoc]
theorem groatref17_Bytes.run (a b : Int) (s : List S5) (hs : s.length ≤ 1000000) (t : List UInt8) (l : List V) (hl : l.length ≤ 300) (h : msgE (a, b, s) t l = (0, 0)) : call groatref17_Bytes.C Try.f22 groatref17_Bytes.code groatref17_Bytes.sg groatref17_Bytes.rs (l.length + 1) ((a, b, s), sb t, l) = some (sb (wireB a s t l)) := by
  obtain ⟨⟨h1, h2, h3⟩, h4⟩ := (msgE_zero _ _ _).1.1 h
  have ha := schema_style h1
  dsimp only at ha h4
  have hset := fromS_setV h4
  have hp := refPut_eq a (setV l).1 (setV l).2 (setV_lt l).1 (setV_lt l).2
  have hp : refPut a (fromS (setV l).1 (setV l).2 0) = _ := hp
  rw [hset] at hp
  have hb := bitsB_length a l
  have ht := typeB_length a t
  rw [groatref17_Bytes.eq, groatref16_Numbers (sb t) l (by omega), Option.bind_some, groatref06_Put a _ (by rw [List.length_map]; omega), Option.bind_some, hp, groatref17_Type a t ha h2, Option.bind_some]
  dsimp only
  rw [show (bitPut a (setV l).1 (setV l).2).1 = bitsB a l from rfl, scat_sb _ _ (by omega), Option.bind_some]
  exact groatref17_Bytes_l a b ha s hs (sb t) l hl l 0 (typeB a t ++ bitsB a l) _ 0 rfl h4 (by rw [List.length_append]; omega) (by omega)
noncomputable def groatref17_Bytes.c : Con := ⟨22, groatref17_Bytes.sg, groatref17_Bytes.rs, groatref17_Bytes.f⟩
theorem groatref17_Bytes.con : ConOk Try.prog groatref17_Bytes.c := walked (C := groatref17_Bytes.C) rfl (by kernel_rfl) (by kernel_rfl) (by kernel_rfl) rfl ⟨groatref17_Type.con, groatref13_Find.con, groatref06_Put.con, groatref16_Numbers.con, groatref12_Put.con, trivial⟩ fun ⟨⟨a, b, s⟩, t, l⟩ y h => by
  obtain ⟨t, rfl⟩ := ex_sb t
  have h : groatref17_Bytes.f ((a, b, s), sb t, l) = some y := h
  unfold groatref17_Bytes.f at h
  split at h
  · rename_i hc
    exact ⟨l.length + 1, (groatref17_Bytes.run a b s hc.1 t l hc.2.1 hc.2.2).trans h⟩
  · cases h
end Go.Proofs.Ytjbhknfdfnilbaa.Xe
