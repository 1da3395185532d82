/- The law StrictCut. -/
import Derived.Test.YtjbhknfdfnilbaaA18
import Derived.Test.YtjbhknfdfnilbaaEwe
import Derived.Test.YtjbhknfdfnilbaaNgf
import Derived.Test.YtjbhknfdfnilbaaNCut
import Derived.Test.YtjbhknfdfnilbaaXop
namespace Go.Proofs.Ytjbhknfdfnilbaa.Xe
open Go Go.RowKit Go.Proofs.Ytjbhknfdfnilbaa.Sp
set_option linter.unusedVariables false
set_option linter.unusedSimpArgs false
set_option maxRecDepth 100000
/-! ### groatlaw18_StrictCut -/
@[reducible] def groatlaw18_StrictCut.sg : List Shp := [.a (.pair (.int .i64) (.pair (.int .i64) (.sl (.pair (.int .i64) (.pair (.int .i64) (.pair (.int .i64) (.pair (.int .i64) (.int .i64)))))))), .a (.pair (.str) (.sl (.pair (.int .i64) (.str)))), .v (.int .i64)]
@[reducible] def groatlaw18_StrictCut.rs : Rs := .one (.v (.bool))
@[reducible] noncomputable def groatlaw18_StrictCut.code : Code := Try.f12.body.getD .skip
noncomputable def groatlaw18_StrictCut.C : Ctx := ⟨tab, [groatref16_Great.c, wire_Encode.c, groatref16_Same.c, groatlaw18_awake.c, strict_Decode.c], [], ⟨[], []⟩⟩
theorem groatlaw18_StrictCut.eq (n : Nat) (a0 : Int) (a1 : Int) (a2 : List ((Int × (Int × (Int × (Int × Int)))))) (a3 : ByteArray) (a4 : List ((Int × ByteArray))) (a5 : Int) : call groatlaw18_StrictCut.C Try.f12 groatlaw18_StrictCut.code groatlaw18_StrictCut.sg groatlaw18_StrictCut.rs n ((a0, (a1, a2)), ((a3, a4), a5)) =
  ((groatlaw18_awake.f ()).bind fun b0 =>
  (if ¬b0 = true then ((groatlaw18_awake.f ()).bind fun b1 =>
   (some (decide (b1 = true))))
  else (if (↑(List.length a2) : Int) > 200 then ((groatlaw18_awake.f ()).bind fun b2 =>
    (some (decide (b2 = true))))
   else ((groatref16_Great.f (a3, a4)).bind fun b3 =>
    (if b3 = true then ((groatlaw18_awake.f ()).bind fun b4 =>
     (some (decide (b4 = true))))
    else ((wire_Encode.f ((a0, a1, a2), a3, a4)).bind fun b5 =>
     (if ¬(Prod.fst (Prod.snd b5) = 0 ∧ Prod.snd (Prod.snd b5) = 0 ∧ True) then (some true)
     else (if a5 < 0 then (some true)
      else (if a5 ≥ (↑(ByteArray.size (Prod.fst b5)) : Int) then (some true)
       else ((ssub (Prod.fst b5) 0 a5).bind fun b6 =>
        ((strict_Decode.f ((a0, a1, a2), b6)).bind fun b7 =>
        (if ¬Prod.fst (Prod.snd b7) = 2 then (some false)
        else (if (↑(List.length (Prod.snd (Prod.fst b7))) : Int) > (↑(List.length a4) : Int) then (some false)
         else ((lsub a4 0 (↑(List.length (Prod.snd (Prod.fst b7))) : Int)).bind fun b8 =>
          ((groatref16_Same.f ((ByteArray.mk #[], Prod.snd (Prod.fst b7)), ByteArray.mk #[], b8)).bind fun b9 =>
          (some (decide (b9 = true)))))))))))))))))) := by kernel_rfl
theorem groatlaw18_StrictCut.ok : CtxOk Try.prog groatlaw18_StrictCut.C := ⟨AllOk.all (show AllOk groatlaw18_StrictCut.C.G from ⟨groatref16_Great.con, wire_Encode.con, groatref16_Same.con, groatlaw18_awake.con, strict_Decode.con, trivial⟩), fun c hc => absurd (show c ∈ ([] : List ConS) from hc) (by simp)⟩
theorem groatlaw18_StrictCut.holds (x : (Int × Int × List S5) × (ByteArray × List V) × Int) (w : Wf (sgTy groatlaw18_StrictCut.sg) x) : ∃ n, call groatlaw18_StrictCut.C Try.f12 groatlaw18_StrictCut.code groatlaw18_StrictCut.sg groatlaw18_StrictCut.rs n x = some true := by
  obtain ⟨⟨a, b, s⟩, ⟨t, l⟩, n⟩ := x
  obtain ⟨t, rfl⟩ := ex_sb t
  refine ⟨0, ?_⟩
  rw [groatlaw18_StrictCut.eq]
  simp only [groatlaw18_awake.f, Option.bind_some, not_true_eq_false, if_false, groatref16_Great]
  by_cases c : (s.length : Int) > 200
  · rw [if_pos c]; simp
  rw [if_neg c]
  cases g1 : great (sb t) l with
  | true => simp
  | false =>
    obtain ⟨g2, g3, g4⟩ := great_no g1
    have ho : okM l := ⟨by omega, fun v hv => by have := g4 v hv; omega⟩
    have hs : s.length ≤ 1000000 := by omega
    rw [if_neg (by simp), wire_Encode a b s hs t l ho, Option.bind_some]
    by_cases hv : msgE (a, b, s) t l = (0, 0)
    · rw [wireE_zero hv]
      have hw : (wireB a s t l).length ≤ 1000000 := wireB_length a s t l (by omega)
      rw [if_neg (fun q => q ⟨rfl, rfl, trivial⟩)]
      by_cases c1 : n < 0
      · rw [if_pos c1]
      rw [if_neg c1]
      dsimp only
      rw [size_sb]
      by_cases c2 : n ≥ ((wireB a s t l).length : Int)
      · rw [if_pos c2]
      rw [if_neg c2]
      obtain ⟨n, rfl⟩ := Int.eq_ofNat_of_zero_le (show 0 ≤ n by omega)
      obtain ⟨h1, j, h2⟩ := decM_cut hv n (show n < (wireB a s t l).length by omega)
      have e1 : ssub (sb (wireB a s t l)) 0 (n : Int) = some (sb ((wireB a s t l).take n)) := ssub_sb (wireB a s t l) 0 n (Nat.zero_le _) (by omega)
      rw [e1, Option.bind_some, strict_Decode a b s hs _ (by rw [List.length_take]; omega), Option.bind_some]
      dsimp only at h1 h2
      rw [h1, h2, if_neg (by simp)]
      have hj : (l.take j).length ≤ l.length := by rw [List.length_take]; omega
      have e2 : lsub l 0 ((l.take j).length : Int) = some (l.take j) := by
        unfold lsub
        rw [if_pos (by omega), Int.toNat_natCast]
        show some (l.take (l.take j).length) = _
        rw [List.length_take]
        congr 1
        rcases Nat.le_total j l.length with q | q
        · rw [Nat.min_eq_left q]
        · rw [Nat.min_eq_right q, List.take_of_length_le (Nat.le_refl _), List.take_of_length_le q]
      rw [if_neg (by omega), e2, Option.bind_some, groatref16_Same _ _ _ _ (by first | omega | (dsimp only; omega))]
      simp
    · obtain ⟨n1, n2⟩ := wireE_no hv
      rw [n1, if_pos (fun q => n2 q.1)]
end Go.Proofs.Ytjbhknfdfnilbaa.Xe
