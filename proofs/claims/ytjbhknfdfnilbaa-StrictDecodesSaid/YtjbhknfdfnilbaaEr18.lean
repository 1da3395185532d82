/- What the reference's Decode answers. -/
import Derived.Test.YtjbhknfdfnilbaaEr12
import Derived.Test.YtjbhknfdfnilbaaEr13
import Derived.Test.YtjbhknfdfnilbaaEr06g
import Derived.Test.YtjbhknfdfnilbaaNgf
import Derived.Test.YtjbhknfdfnilbaaNgf
namespace Go.Proofs.Ytjbhknfdfnilbaa.Xe
open Go Go.RowKit Go.Proofs.Ytjbhknfdfnilbaa.Sp
set_option linter.unusedVariables false
set_option linter.unusedSimpArgs false
set_option maxRecDepth 100000
/-! ### groatref18_Decode -/
@[reducible] def groatref18_Decode.sg : List Shp := [.a (.pair (.int .i64) (.pair (.int .i64) (.sl (.pair (.int .i64) (.pair (.int .i64) (.pair (.int .i64) (.pair (.int .i64) (.int .i64)))))))), .v (.str)]
@[reducible] def groatref18_Decode.rs : Rs := .tup [.a (.pair (.str) (.sl (.pair (.int .i64) (.str)))), .a (.pair (.int .i64) (.int .i64))]
@[reducible] noncomputable def groatref18_Decode.code : Code := Try.f34.body.getD .skip
noncomputable def groatref18_Decode.C : Ctx := ⟨tab, [groatref15_Right.c, groatref13_Right.c, groatref13_Find.c, groatref03_Get.c, groatref06_Get.c, groatref12_Get.c], [], ⟨[(19, [1, 2, 4, 5, 6, 9, 10, 12], 4)], []⟩⟩
noncomputable def groatref18_Decode.l0 (n : Nat) (v0 : ByteArray) (v1 : List Int) (v2 : Int) (v3 : Int) (v4 : Int) (v5 : Int) (v6 : List ((Int × (Int × (Int × (Int × Int)))))) (v7 : ByteArray) (v8 : Int) (v9 : Int) (v10 : ByteArray) : Option (((ByteArray × List ((Int × ByteArray))) × (Int × Int))) := run groatref18_Decode.C (finOf groatref18_Decode.C Try.f34 groatref18_Decode.rs) n (todoAt 19 groatref18_Decode.code) ⟨[.junk, .str v0, .ptr 0 0, .junk, .ptr 1 0, .ptr 2 0, .ptr 3 0, .junk, .junk, .sl none (.int .i64) v1, .int .i64 v2, .junk, .int .i64 v3, .junk, .junk, .junk, .junk, .junk, .junk, .junk, .junk, .junk, .junk, .junk, .junk, .junk, .junk, .junk, .junk, .junk, .junk, .junk, .junk, .junk, .junk, .junk, .junk, .junk, .junk, .junk, .junk, .junk, .junk, .junk, .junk, .junk, .junk, .junk, .junk, .junk, .junk, .junk, .junk, .junk, .junk, .junk, .junk, .junk, .junk, .junk, .junk, .junk, .junk, .junk, .junk, .junk, .junk, .junk, .junk, .junk, .junk, .junk, .junk, .junk, .junk, .junk, .junk, .junk, .junk, .junk, .junk, .junk, .junk, .junk, .junk, .junk, .junk, .junk, .junk, .junk, .junk, .junk, .junk, .junk, .junk, .junk, .junk, .junk, .junk, .junk, .junk, .junk, .junk, .junk, .junk, .junk, .junk, .junk, .junk, .junk, .junk, .junk, .junk, .junk, .junk, .junk, .junk, .junk, .junk, .junk, .junk, .junk, .junk, .junk, .junk, .junk, .junk, .junk, .junk, .junk, .junk, .junk, .junk, .junk, .junk, .junk, .junk], [[.int .i64 v4, .int .i64 v5, .sl none (.pair (.int .i64) (.pair (.int .i64) (.pair (.int .i64) (.pair (.int .i64) (.int .i64))))) v6], [.str v7, .nilsl], [.int .i64 v8, .int .i64 v9], [.str v10, .nilsl]], []⟩
noncomputable def groatref18_Decode.l1 (n : Nat) (v0 : ByteArray) (v1 : List Int) (v2 : Int) (v3 : Int) (v4 : Int) (v5 : Int) (v6 : List ((Int × (Int × (Int × (Int × Int)))))) (v7 : ByteArray) (v8 : Int) (v9 : Int) (v10 : ByteArray) (v11 : List ((Int × ByteArray))) : Option (((ByteArray × List ((Int × ByteArray))) × (Int × Int))) := run groatref18_Decode.C (finOf groatref18_Decode.C Try.f34 groatref18_Decode.rs) n (todoAt 19 groatref18_Decode.code) ⟨[.junk, .str v0, .ptr 0 0, .junk, .ptr 1 0, .ptr 2 0, .ptr 3 0, .junk, .junk, .sl none (.int .i64) v1, .int .i64 v2, .junk, .int .i64 v3, .junk, .junk, .junk, .junk, .junk, .junk, .junk, .junk, .junk, .junk, .junk, .junk, .junk, .junk, .junk, .junk, .junk, .junk, .junk, .junk, .junk, .junk, .junk, .junk, .junk, .junk, .junk, .junk, .junk, .junk, .junk, .junk, .junk, .junk, .junk, .junk, .junk, .junk, .junk, .junk, .junk, .junk, .junk, .junk, .junk, .junk, .junk, .junk, .junk, .junk, .junk, .junk, .junk, .junk, .junk, .junk, .junk, .junk, .junk, .junk, .junk, .junk, .junk, .junk, .junk, .junk, .junk, .junk, .junk, .junk, .junk, .junk, .junk, .junk, .junk, .junk, .junk, .junk, .junk, .junk, .junk, .junk, .junk, .junk, .junk, .junk, .junk, .junk, .junk, .junk, .junk, .junk, .junk, .junk, .junk, .junk, .junk, .junk, .junk, .junk, .junk, .junk, .junk, .junk, .junk, .junk, .junk, .junk, .junk, .junk, .junk, .junk, .junk, .junk, .junk, .junk, .junk, .junk, .junk, .junk, .junk, .junk, .junk, .junk], [[.int .i64 v4, .int .i64 v5, .sl none (.pair (.int .i64) (.pair (.int .i64) (.pair (.int .i64) (.pair (.int .i64) (.int .i64))))) v6], [.str v7, .nilsl], [.int .i64 v8, .int .i64 v9], [.str v10, .sl (some 0) (.pair (.int .i64) (.str)) v11]], [true]⟩
-- the loop at region 19
theorem groatref18_Decode.l0_eq (n : Nat) (v0 : ByteArray) (v1 : List Int) (v2 : Int) (v3 : Int) (v4 : Int) (v5 : Int) (v6 : List ((Int × (Int × (Int × (Int × Int)))))) (v7 : ByteArray) (v8 : Int) (v9 : Int) (v10 : ByteArray) : groatref18_Decode.l0 (n + 1) v0 v1 v2 v3 v4 v5 v6 v7 v8 v9 v10 =
  (if v3 < (↑(List.length v1) : Int) then ((lget v1 v3).bind fun b17 =>
   ((groatref13_Find.f ((v4, v5, v6), b17)).bind fun b18 =>
   (if b18 < 0 then ((lget v1 v3).bind fun b19 =>
    (some (((v10, []), 9, b19))))
   else ((lget v6 b18).bind fun b20 =>
    ((groatref12_Get.f (v4, b20, v0, v2)).bind fun b21 =>
    (if ¬Prod.snd (Prod.snd b21) = 0 then ((lget v1 v3).bind fun b22 =>
     (some (((v10, []), Prod.snd (Prod.snd b21), b22))))
    else ((lget v1 v3).bind fun b23 =>
     ((lcat 24 [] [(b23, Prod.fst b21)]).bind fun b24 =>
     (groatref18_Decode.l1 n v0 v1 (Prod.fst (Prod.snd b21)) (IntKind.wrap IntKind.i64 (v3 + 1)) v4 v5 v6 v7 v8 v9 v10 b24)))))))))
  else (if v2 < (↑(ByteArray.size v0) : Int) then (some (((v10, []), 12, 129)))
   else (some (((v10, []), 0, 0))))) := by kernel_rfl
-- the loop at region 19
theorem groatref18_Decode.l1_eq (n : Nat) (v0 : ByteArray) (v1 : List Int) (v2 : Int) (v3 : Int) (v4 : Int) (v5 : Int) (v6 : List ((Int × (Int × (Int × (Int × Int)))))) (v7 : ByteArray) (v8 : Int) (v9 : Int) (v10 : ByteArray) (v11 : List ((Int × ByteArray))) : groatref18_Decode.l1 (n + 1) v0 v1 v2 v3 v4 v5 v6 v7 v8 v9 v10 v11 =
  (if v3 < (↑(List.length v1) : Int) then ((lget v1 v3).bind fun b25 =>
   ((groatref13_Find.f ((v4, v5, v6), b25)).bind fun b26 =>
   (if b26 < 0 then ((lget v1 v3).bind fun b27 =>
    (some (((v10, v11), 9, b27))))
   else ((lget v6 b26).bind fun b28 =>
    ((groatref12_Get.f (v4, b28, v0, v2)).bind fun b29 =>
    (if ¬Prod.snd (Prod.snd b29) = 0 then ((lget v1 v3).bind fun b30 =>
     (some (((v10, v11), Prod.snd (Prod.snd b29), b30))))
    else ((lget v1 v3).bind fun b31 =>
     ((lcat 24 v11 [(b31, Prod.fst b29)]).bind fun b32 =>
     (groatref18_Decode.l1 n v0 v1 (Prod.fst (Prod.snd b29)) (IntKind.wrap IntKind.i64 (v3 + 1)) v4 v5 v6 v7 v8 v9 v10 b32)))))))))
  else (if v2 < (↑(ByteArray.size v0) : Int) then (some (((v10, v11), 12, 129)))
   else (some (((v10, v11), 0, 0))))) := by kernel_rfl
theorem groatref18_Decode.eq (n : Nat) (a0 : Int) (a1 : Int) (a2 : List ((Int × (Int × (Int × (Int × Int)))))) (a3 : ByteArray) : call groatref18_Decode.C Try.f34 groatref18_Decode.code groatref18_Decode.sg groatref18_Decode.rs n ((a0, (a1, a2)), a3) =
  ((groatref13_Right.f (a0, a1, a2)).bind fun b0 =>
  (if ¬b0 = true then (some (((ByteArray.mk #[], []), 1, -1)))
  else (if a0 = 2 then (if (↑(ByteArray.size a3) : Int) < 2 then (some (((ByteArray.mk #[], []), 2, 0)))
    else ((ssub a3 0 2).bind fun b1 =>
     (if a0 = 2 then ((groatref03_Get.f (b1, 4)).bind fun b2 =>
      ((groatref15_Right.f (Prod.fst b2)).bind fun b3 =>
      (if ¬b3 = true then (some (((ByteArray.mk #[], []), 7, 0)))
      else ((bget (Prod.fst b2) 0).bind fun b4 =>
       (if ¬IntKind.wrap IntKind.i64 (IntKind.wrap IntKind.i64 (↑(UInt8.toNat b4) : Int) - 48) = a1 then (some (((ByteArray.mk #[], []), 7, 0)))
       else ((groatref06_Get.f (a0, a3, 2)).bind fun b5 =>
        (if ¬Prod.snd (Prod.snd b5) = 0 then (some (((Prod.fst b2, []), Prod.snd (Prod.snd b5), 1)))
        else (groatref18_Decode.l0 n a3 (Prod.fst b5) (Prod.fst (Prod.snd b5)) 0 a0 a1 a2 (ByteArray.mk #[]) 0 0 (Prod.fst b2)))))))))
     else ((groatref15_Right.f b1).bind fun b6 =>
      (if ¬b6 = true then (some (((ByteArray.mk #[], []), 7, 0)))
      else ((bget b1 0).bind fun b7 =>
       (if ¬IntKind.wrap IntKind.i64 (IntKind.wrap IntKind.i64 (↑(UInt8.toNat b7) : Int) - 48) = a1 then (some (((ByteArray.mk #[], []), 7, 0)))
       else ((groatref06_Get.f (a0, a3, 2)).bind fun b8 =>
        (if ¬Prod.snd (Prod.snd b8) = 0 then (some (((b1, []), Prod.snd (Prod.snd b8), 1)))
        else (groatref18_Decode.l0 n a3 (Prod.fst b8) (Prod.fst (Prod.snd b8)) 0 a0 a1 a2 (ByteArray.mk #[]) 0 0 b1))))))))))
   else (if (↑(ByteArray.size a3) : Int) < 4 then (some (((ByteArray.mk #[], []), 2, 0)))
    else ((ssub a3 0 4).bind fun b9 =>
     (if a0 = 2 then ((groatref03_Get.f (b9, 4)).bind fun b10 =>
      ((groatref15_Right.f (Prod.fst b10)).bind fun b11 =>
      (if ¬b11 = true then (some (((ByteArray.mk #[], []), 7, 0)))
      else ((bget (Prod.fst b10) 0).bind fun b12 =>
       (if ¬IntKind.wrap IntKind.i64 (IntKind.wrap IntKind.i64 (↑(UInt8.toNat b12) : Int) - 48) = a1 then (some (((ByteArray.mk #[], []), 7, 0)))
       else ((groatref06_Get.f (a0, a3, 4)).bind fun b13 =>
        (if ¬Prod.snd (Prod.snd b13) = 0 then (some (((Prod.fst b10, []), Prod.snd (Prod.snd b13), 1)))
        else (groatref18_Decode.l0 n a3 (Prod.fst b13) (Prod.fst (Prod.snd b13)) 0 a0 a1 a2 (ByteArray.mk #[]) 0 0 (Prod.fst b10)))))))))
     else ((groatref15_Right.f b9).bind fun b14 =>
      (if ¬b14 = true then (some (((ByteArray.mk #[], []), 7, 0)))
      else ((bget b9 0).bind fun b15 =>
       (if ¬IntKind.wrap IntKind.i64 (IntKind.wrap IntKind.i64 (↑(UInt8.toNat b15) : Int) - 48) = a1 then (some (((ByteArray.mk #[], []), 7, 0)))
       else ((groatref06_Get.f (a0, a3, 4)).bind fun b16 =>
        (if ¬Prod.snd (Prod.snd b16) = 0 then (some (((b9, []), Prod.snd (Prod.snd b16), 1)))
        else (groatref18_Decode.l0 n a3 (Prod.fst b16) (Prod.fst (Prod.snd b16)) 0 a0 a1 a2 (ByteArray.mk #[]) 0 0 b9))))))))))))) := by kernel_rfl
noncomputable def groatref18_Decode.f (x : (Int × Int × List S5) × ByteArray) : Option ((ByteArray × List V) × Int × Int) := if x.1.2.2.length ≤ 1000000 ∧ x.2.size ≤ 1000000000000 then some ((sb (decM x.1 (bl x.2)).1.1, (decM x.1 (bl x.2)).1.2), (decM x.1 (bl x.2)).2) else none
theorem groatref18_Decode (a ver : Int) (s : List S5) (hs : s.length ≤ 1000000) (b : List UInt8) (hb : b.length ≤ 1000000000000) : groatref18_Decode.f ((a, ver, s), sb b) = some ((sb (decM (a, ver, s) b).1.1, (decM (a, ver, s) b).1.2), (decM (a, ver, s) b).2) := if_pos ⟨hs, by rw [size_sb]; exact hb⟩
theorem fromS_hor {L : List Int} (hL : Asc6 L) {h l : Nat} (e : (hor (isIn L) 1 64, hor (isIn L) 65 64) = (h, l)) : L = fromS h l 0 := by
  obtain ⟨h1, h2⟩ := Prod.ext_iff.1 e
  dsimp only at h1 h2
  refine asc_ext hL.1 (fromS_pair _ _ _) fun x => ?_
  rw [mem_fromS]
  have key : ∀ m : Nat, 1 ≤ m → m ≤ 128 → (fhas h l (m : Int) = true ↔ (m : Int) ∈ L) := fun m m1 m2 => by
    rcases Nat.lt_or_ge 64 m with c | c
    · have := hor_bit (isIn L) 65 64 (m - 65) (by omega)
      rw [h2, show 64 - 1 - (m - 65) = 128 - m by omega, show 65 + (m - 65) = m by omega] at this
      rw [fhas_low h l m c m2, this]
      unfold isIn
      rw [decide_eq_true_eq]
    · have := hor_bit (isIn L) 1 64 (m - 1) (by omega)
      rw [h1, show 64 - 1 - (m - 1) = 64 - m by omega, show 1 + (m - 1) = m by omega] at this
      rw [fhas_high h l m m1 c, this]
      unfold isIn
      rw [decide_eq_true_eq]
  constructor
  · intro hx
    have := hL.2 x hx
    obtain ⟨m, rfl⟩ := Int.eq_ofNat_of_zero_le (show 0 ≤ x by omega)
    exact ⟨m, rfl, by omega, by omega, (key m (by omega) (by omega)).2 hx⟩
  · rintro ⟨m, rfl, m1, m2, m3⟩
    exact (key m m1 m2).1 m3
/-- One field. -/
theorem ref18_one (a ver : Int) (s : List S5) (hs : s.length ≤ 1000000) (b : List UInt8) (hb : b.length ≤ 1000000000000) (n at_ : Int) (t : ByteArray) (acc : List V) (K : Int → ByteArray × Int × Int → Option ((ByteArray × List V) × Int × Int)) :
    ((groatref13_Find.f ((a, ver, s), n)).bind fun b26 => if b26 < 0 then (some n).bind fun b27 => some ((t, acc), 9, b27)
      else (lget s b26).bind fun b28 => (groatref12_Get.f (a, b28, sb b, at_)).bind fun b29 => if ¬Prod.snd (Prod.snd b29) = 0 then (some n).bind fun b30 => some ((t, acc), Prod.snd (Prod.snd b29), b30)
      else (some n).bind fun b31 => K b31 b29) =
    if (findS n s).2 = false then some ((t, acc), 9, n) else if (cellGet' a (findS n s).1 b at_).2.2 ≠ 0 then some ((t, acc), (cellGet' a (findS n s).1 b at_).2.2, n) else K n (strR (cellGet' a (findS n s).1 b at_)) := by
  rw [groatref13_Find a ver s hs, Option.bind_some]
  rcases idxS_find n s s 0 rfl with ⟨h1, h2⟩ | ⟨h1, h2, h3⟩
  · rw [if_pos h1, Option.bind_some, if_pos h2]
  · have hg : groatref12_Get.f (a, (findS n s).1, sb b, at_) = some (strR (cellGet' a (findS n s).1 b at_)) := groatref12_Get a (findS n s).1.1 (findS n s).1.2.1 (findS n s).1.2.2.1 (findS n s).1.2.2.2.1 (findS n s).1.2.2.2.2 b hb at_
    rw [if_neg h1, h3, Option.bind_some, hg, Option.bind_some, if_neg (show ¬ (findS n s).2 = false by rw [h2]; simp)]
    by_cases c : (cellGet' a (findS n s).1 b at_).2.2 = 0
    · rw [if_neg (not_not_intro c)]
      show (if ¬ (cellGet' a (findS n s).1 b at_).2.2 = 0 then _ else _) = _
      rw [if_neg (not_not_intro c), Option.bind_some]
    · rw [if_pos c]
      show (if ¬ (cellGet' a (findS n s).1 b at_).2.2 = 0 then _ else _) = _
      rw [if_pos c, Option.bind_some]; rfl
theorem groatref18_Decode_l1 (a ver : Int) (s : List S5) (hs : s.length ≤ 1000000) (b : List UInt8) (hb : b.length ≤ 1000000000000) (L : List Int) (hL : L.length ≤ 1000) (t y : ByteArray) (z1 z2 : Int) : ∀ (m : List Int) (i k : Nat) (at_ : Int) (acc : List V), L.drop i = m → m.length < k → acc.length + m.length ≤ 1000 →
    groatref18_Decode.l1 k (sb b) L at_ (i : Int) a ver s y z1 z2 t acc = some ((t, acc ++ (decL a s b m at_).1), (decL a s b m at_).2)
  | [], i, k, at_, acc, hd, hk, ha => by
    obtain ⟨k, rfl⟩ : ∃ m, k = m + 1 := ⟨k - 1, by omega⟩
    have := dropn hd
    rw [groatref18_Decode.l1_eq, if_neg (by omega), decL, List.append_nil, size_sb]
    split <;> rfl
  | x :: m, i, k, at_, acc, hd, hk, ha => by
    obtain ⟨k, rfl⟩ : ∃ m, k = m + 1 := ⟨k - 1, by omega⟩
    obtain ⟨h1, h2, h3, h4⟩ := dropc hd
    have hk' : m.length < k := by simp at hk; omega
    rw [List.length_cons] at ha
    rw [groatref18_Decode.l1_eq, if_pos (by omega), h4, Option.bind_some]
    refine Eq.trans (ref18_one a ver s hs b hb x at_ t acc (fun b31 b29 => (lcat 24 acc [(b31, Prod.fst b29)]).bind fun b32 => groatref18_Decode.l1 k (sb b) L (Prod.fst (Prod.snd b29)) (IntKind.wrap IntKind.i64 ((i : Int) + 1)) a ver s y z1 z2 t b32)) ?_
    rw [decL]
    by_cases c : (findS x s).2 = false
    · rw [if_pos c, if_pos c, List.append_nil]
    rw [if_neg c, if_neg c]
    by_cases c2 : (cellGet' a (findS x s).1 b at_).2.2 = 0
    · rw [if_neg (not_not_intro c2), if_neg (not_not_intro c2)]
      unfold strR
      dsimp only
      rw [lcat_ok _ _ _ (by simp only [List.length_cons, List.length_nil]; omega), Option.bind_some, wrap_succ (by omega), groatref18_Decode_l1 a ver s hs b hb L hL t y z1 z2 m (i + 1) k _ (acc ++ [(x, sb (cellGet' a (findS x s).1 b at_).1)]) h2 hk' (by rw [List.length_append]; simp only [List.length_cons, List.length_nil]; omega)]
      simp
    · rw [if_pos c2, if_pos c2, List.append_nil]
theorem groatref18_Decode_l0 (a ver : Int) (s : List S5) (hs : s.length ≤ 1000000) (b : List UInt8) (hb : b.length ≤ 1000000000000) (L : List Int) (hL : L.length ≤ 900) (t y : ByteArray) (z1 z2 : Int) (k : Nat) (at_ : Int) (hk : 1000 ≤ k) :
    groatref18_Decode.l0 k (sb b) L at_ 0 a ver s y z1 z2 t = some ((t, (decL a s b L at_).1), (decL a s b L at_).2) := by
  obtain ⟨k, rfl⟩ : ∃ m, k = m + 1 := ⟨k - 1, by omega⟩
  cases hd : L with
  | nil =>
    rw [groatref18_Decode.l0_eq, if_neg (by simp), decL, size_sb]
    split <;> rfl
  | cons x m =>
    have hd0 : L.drop 0 = x :: m := hd
    obtain ⟨h1, h2, h3, h4⟩ := dropc hd0
    have h4 : lget L 0 = some x := h4
    rw [← hd, groatref18_Decode.l0_eq, if_pos (by omega), h4, Option.bind_some]
    refine Eq.trans (ref18_one a ver s hs b hb x at_ t [] (fun b31 b29 => (lcat 24 [] [(b31, Prod.fst b29)]).bind fun b32 => groatref18_Decode.l1 k (sb b) L (Prod.fst (Prod.snd b29)) (IntKind.wrap IntKind.i64 (0 + 1)) a ver s y z1 z2 t b32)) ?_
    rw [hd, decL, ← hd]
    by_cases c : (findS x s).2 = false
    · rw [if_pos c, if_pos c]
    rw [if_neg c, if_neg c]
    by_cases c2 : (cellGet' a (findS x s).1 b at_).2.2 = 0
    · rw [if_neg (not_not_intro c2), if_neg (not_not_intro c2)]
      unfold strR
      dsimp only
      rw [lcat_ok _ _ _ (by simp), Option.bind_some, show (0 : Int) + 1 = ((1 : Nat) : Int) from rfl, wrap_nat (by omega), List.nil_append, groatref18_Decode_l1 a ver s hs b hb L (by omega) t y z1 z2 m 1 k _ [(x, sb (cellGet' a (findS x s).1 b at_).1)] h2 (by omega) (by simp only [List.length_cons, List.length_nil]; omega)]
      rfl
    · rw [if_pos c2, if_pos c2]
theorem sub_take (b : List UInt8) (n : Nat) (h : n ≤ b.length) (c : Int) (hc : c = (n : Int)) : ssub (sb b) 0 c = some (sb (b.take n)) := by
  subst hc
  exact ssub_sb b 0 n (Nat.zero_le _) h
theorem ref18_tail (a ver : Int) (s : List S5) (hs : s.length ≤ 1000000) (b : List UInt8) (hb : b.length ≤ 1000000000000) (n : Nat) (c : Int) (hc : c = (n : Int)) (hn : n = typeN a) (hl : ¬ b.length < typeN a) (y : ByteArray) (z1 z2 : Int) :
    ((groatref15_Right.f (sb (typeT a b))).bind fun b3 => if ¬b3 = true then some ((ByteArray.mk #[], []), 7, 0)
      else (bget (sb (typeT a b)) 0).bind fun b4 => if ¬IntKind.wrap IntKind.i64 (IntKind.wrap IntKind.i64 (b4.toNat : Int) - 48) = ver then some ((ByteArray.mk #[], []), 7, 0)
      else (groatref06_Get.f (a, sb b, c)).bind fun b5 => if ¬Prod.snd (Prod.snd b5) = 0 then some ((sb (typeT a b), []), Prod.snd (Prod.snd b5), 1)
      else groatref18_Decode.l0 1000 (sb b) (Prod.fst b5) (Prod.fst (Prod.snd b5)) 0 a ver s y z1 z2 (sb (typeT a b))) =
    some (if (typeG a ver b).2.2 ≠ 0 then ((sb [], []), (typeG a ver b).2.2, 0)
      else if (bitGet a b (typeG a ver b).2.1).2.2 ≠ 0 then ((sb (typeG a ver b).1, []), (bitGet a b (typeG a ver b).2.1).2.2, 1)
      else ((sb (typeG a ver b).1, (decL a s b (fromS (bitGet a b (typeG a ver b).2.1).1.1 (bitGet a b (typeG a ver b).2.1).1.2 0) ((bitGet a b (typeG a ver b).2.1).2.1 : Int)).1),
        (decL a s b (fromS (bitGet a b (typeG a ver b).2.1).1.1 (bitGet a b (typeG a ver b).2.1).1.2 0) ((bitGet a b (typeG a ver b).2.1).2.1 : Int)).2)) := by
  subst hc
  rw [groatref15_Right, Option.bind_some]
  by_cases c1 : right (typeT a b) = true
  · obtain ⟨p, q, r, u, e, -⟩ := four c1
    have hg : bget (sb (typeT a b)) 0 = some p := by rw [e]; rfl
    have e2 : (typeT a b).getD 0 0 = p := by rw [e]; rfl
    have hp := p.toNat_lt
    rw [if_neg (not_not_intro c1), hg, Option.bind_some, wrap_nat (by omega), wrap_id (by omega) (by omega)]
    by_cases c2 : (p.toNat : Int) - 48 = ver
    · have eG : typeG a ver b = (typeT a b, ((typeN a : Nat) : Int), 0) := by
        unfold typeG
        rw [if_neg hl, e2, if_pos (show right (typeT a b) = true ∧ (p.toNat : Int) - 48 = ver from ⟨c1, c2⟩)]
      rw [if_neg (not_not_intro c2), eG]
      dsimp only
      rw [if_neg (show ¬ ((0 : Int) ≠ 0) from not_not_intro rfl), hn]
      obtain ⟨L, g1, g2, g3, g4⟩ := groatref06_Get a b (by omega) ((typeN a : Nat) : Int)
      have hL := fromS_hor g4 g3
      rw [g1, Option.bind_some]
      dsimp only
      by_cases c3 : (bitGet a b ((typeN a : Nat) : Int)).2.2 = 0
      · rw [if_neg (not_not_intro c3), if_neg (not_not_intro c3), ← hL]
        have hl128 : L.length ≤ 128 := by rw [hL]; exact fromS_length _ _ _
        exact groatref18_Decode_l0 a ver s hs b hb L (by omega) _ _ _ _ 1000 _ (by omega)
      · rw [if_pos c3, if_pos c3]
    · have eG : typeG a ver b = ([], 0, 7) := by
        unfold typeG
        rw [if_neg hl, e2, if_neg (show ¬ (right (typeT a b) = true ∧ (p.toNat : Int) - 48 = ver) from fun q => c2 q.2)]
      rw [if_pos c2, eG, if_pos (show ((7 : Int) ≠ 0) by decide)]; rfl
  · have eG : typeG a ver b = ([], 0, 7) := by
      unfold typeG
      rw [if_neg hl, if_neg (show ¬ (right (typeT a b) = true ∧ (((typeT a b).getD 0 0).toNat : Int) - 48 = ver) from fun q => c1 q.1)]
    rw [if_pos c1, eG, if_pos (show ((7 : Int) ≠ 0) by decide)]; rfl
theorem groatref18_Decode.run (a ver : Int) (s : List S5) (hs : s.length ≤ 1000000) (b : List UInt8) (hb : b.length ≤ 1000000000000) : call groatref18_Decode.C Try.f34 groatref18_Decode.code groatref18_Decode.sg groatref18_Decode.rs 1000 ((a, ver, s), sb b) = some ((sb (decM (a, ver, s) b).1.1, (decM (a, ver, s) b).1.2), (decM (a, ver, s) b).2) := by
  have fin : ∀ {x : Option ((ByteArray × List V) × Int × Int)}, x = some (if (typeG a ver b).2.2 ≠ 0 then ((sb [], []), (typeG a ver b).2.2, 0)
      else if (bitGet a b (typeG a ver b).2.1).2.2 ≠ 0 then ((sb (typeG a ver b).1, []), (bitGet a b (typeG a ver b).2.1).2.2, 1)
      else ((sb (typeG a ver b).1, (decL a s b (fromS (bitGet a b (typeG a ver b).2.1).1.1 (bitGet a b (typeG a ver b).2.1).1.2 0) ((bitGet a b (typeG a ver b).2.1).2.1 : Int)).1),
        (decL a s b (fromS (bitGet a b (typeG a ver b).2.1).1.1 (bitGet a b (typeG a ver b).2.1).1.2 0) ((bitGet a b (typeG a ver b).2.1).2.1 : Int)).2)) → (schemaE (a, ver, s)).1 = 0 →
      x = some ((sb (decM (a, ver, s) b).1.1, (decM (a, ver, s) b).1.2), (decM (a, ver, s) b).2) := fun e c1 => by
    rw [e]
    unfold decM
    rw [if_neg (not_not_intro c1)]
    dsimp only
    congr 1
    split
    · rfl
    · split <;> rfl
  rw [groatref18_Decode.eq, groatref13_Right a ver s hs, Option.bind_some]
  by_cases c1 : (schemaE (a, ver, s)).1 = 0
  · rw [decide_eq_true c1, if_neg (not_not_intro rfl), size_sb]
    refine fin ?_ c1
    by_cases c2 : a = 2
    · have hN : typeN a = 2 := by unfold typeN; rw [if_pos c2]
      rw [if_pos c2]
      by_cases c3 : b.length < 2
      · have eG : typeG a ver b = ([], 0, 2) := by
          unfold typeG
          rw [if_pos (show b.length < typeN a by omega)]
        rw [if_pos (by omega), eG, if_pos (show ((2 : Int) ≠ 0) by decide)]; rfl
      · have hT : typeT a b = (bcdGet (b.take 2) 4).1 := by unfold typeT; rw [if_pos c2]
        rw [if_neg (by omega), sub_take b 2 (by omega) 2 rfl, Option.bind_some, if_pos c2, groatref03_Get _ (by rw [List.length_take]; omega) 4 (by omega) (by omega), Option.bind_some]
        dsimp only
        rw [← hT]
        exact ref18_tail a ver s hs b hb 2 2 rfl hN.symm (by omega) _ _ _
    · have hN : typeN a = 4 := by unfold typeN; rw [if_neg c2]
      rw [if_neg c2]
      by_cases c3 : b.length < 4
      · have eG : typeG a ver b = ([], 0, 2) := by
          unfold typeG
          rw [if_pos (show b.length < typeN a by omega)]
        rw [if_pos (by omega), eG, if_pos (show ((2 : Int) ≠ 0) by decide)]; rfl
      · have hT : typeT a b = b.take 4 := by unfold typeT; rw [if_neg c2]
        rw [if_neg (by omega), sub_take b 4 (by omega) 4 rfl, Option.bind_some, if_neg c2, ← hT]
        exact ref18_tail a ver s hs b hb 4 4 rfl hN.symm (by omega) _ _ _
  · rw [decide_eq_false c1, if_pos (by simp)]
    unfold decM
    rw [if_pos c1]; rfl
noncomputable def groatref18_Decode.c : Con := ⟨34, groatref18_Decode.sg, groatref18_Decode.rs, groatref18_Decode.f⟩
theorem groatref18_Decode.con : ConOk Try.prog groatref18_Decode.c := walked (C := groatref18_Decode.C) rfl (by kernel_rfl) (by kernel_rfl) (by kernel_rfl) rfl ⟨groatref15_Right.con, groatref13_Right.con, groatref13_Find.con, groatref03_Get.con, groatref06_Get.con, groatref12_Get.con, trivial⟩ fun ⟨⟨a, ver, s⟩, b⟩ y h => by
  obtain ⟨b, rfl⟩ := ex_sb b
  have h : groatref18_Decode.f ((a, ver, s), sb b) = some y := h
  unfold groatref18_Decode.f at h
  split at h
  · rename_i hc
    obtain ⟨h1, h2⟩ := hc
    have h2 : (sb b).size ≤ 1000000000000 := h2
    rw [size_sb] at h2
    exact ⟨1000, (groatref18_Decode.run a ver s h1 b h2).trans h⟩
  · cases h
end Go.Proofs.Ytjbhknfdfnilbaa.Xe
