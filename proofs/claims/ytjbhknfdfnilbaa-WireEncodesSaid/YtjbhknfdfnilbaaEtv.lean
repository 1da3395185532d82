/- What the program's reader of lists of tags and values answers. -/
import Derived.Test.YtjbhknfdfnilbaaNgc
import Derived.Test.YtjbhknfdfnilbaaEtl
namespace Go.Proofs.Ytjbhknfdfnilbaa.Xe
open Go Go.RowKit Go.Proofs.Ytjbhknfdfnilbaa.Sp
set_option linter.unusedVariables false
set_option linter.unusedSimpArgs false
set_option maxRecDepth 100000
/-! ### tlv_Get -/
@[reducible] def tlv_Get.sg : List Shp := [.v (.str)]
@[reducible] def tlv_Get.rs : Rs := .tup [.v (.sl (.pair (.int .i64) (.str))), .v (.int .i64), .v (.int .i64)]
@[reducible] noncomputable def tlv_Get.code : Code := Try.f92.body.getD .skip
noncomputable def tlv_Get.C : Ctx := ⟨tab, [tag_Get.c, ber_Get.c], [], ⟨[(4, [0, 5, 6, 7], 1)], []⟩⟩
noncomputable def tlv_Get.l0 (n : Nat) (v0 : ByteArray) (v1 : Int) (v2 : List Int) : Option ((List ((Int × ByteArray)) × (Int × Int))) := run tlv_Get.C (finOf tlv_Get.C Try.f92 tlv_Get.rs) n (todoAt 4 tlv_Get.code) ⟨[.str v0, .junk, .junk, .junk, .junk, .nilsl, .mp 0, .int .i64 v1, .junk, .junk, .junk, .junk, .junk, .junk, .junk, .junk, .junk, .junk, .junk, .junk, .junk, .junk, .junk, .junk, .junk, .junk, .junk, .junk, .junk, .junk, .junk, .junk, .junk, .junk, .junk, .junk, .junk, .junk, .junk, .junk, .junk, .junk, .junk, .junk, .junk, .junk, .junk, .junk, .junk, .junk, .junk, .junk, .junk, .junk, .junk, .junk, .junk, .junk, .junk, .junk, .junk, .junk, .junk, .junk, .junk, .junk, .junk, .junk, .junk, .junk, .junk, .junk], [[.keys 3 4 (.int .i64) v2]], []⟩
noncomputable def tlv_Get.l1 (n : Nat) (v0 : ByteArray) (v1 : List ((Int × ByteArray))) (v2 : Int) (v3 : List Int) : Option ((List ((Int × ByteArray)) × (Int × Int))) := run tlv_Get.C (finOf tlv_Get.C Try.f92 tlv_Get.rs) n (todoAt 4 tlv_Get.code) ⟨[.str v0, .junk, .junk, .junk, .junk, .sl (some 0) (.pair (.int .i64) (.str)) v1, .mp 0, .int .i64 v2, .junk, .junk, .junk, .junk, .junk, .junk, .junk, .junk, .junk, .junk, .junk, .junk, .junk, .junk, .junk, .junk, .junk, .junk, .junk, .junk, .junk, .junk, .junk, .junk, .junk, .junk, .junk, .junk, .junk, .junk, .junk, .junk, .junk, .junk, .junk, .junk, .junk, .junk, .junk, .junk, .junk, .junk, .junk, .junk, .junk, .junk, .junk, .junk, .junk, .junk, .junk, .junk, .junk, .junk, .junk, .junk, .junk, .junk, .junk, .junk, .junk, .junk, .junk, .junk], [[.keys 3 4 (.int .i64) v3]], [true]⟩
-- the loop at region 4
theorem tlv_Get.l0_eq (n : Nat) (v0 : ByteArray) (v1 : Int) (v2 : List Int) : tlv_Get.l0 (n + 1) v0 v1 v2 =
  (if v1 < (↑(ByteArray.size v0) : Int) then ((tag_Get.f (v0, v1)).bind fun b0 =>
   (if ¬Prod.snd (Prod.snd b0) = 0 then (some (([], Prod.snd (Prod.snd b0), v1)))
   else ((ber_Get.f (v0, Prod.fst (Prod.snd b0))).bind fun b1 =>
    (if ¬Prod.snd (Prod.snd b1) = 0 then (some (([], Prod.snd (Prod.snd b1), Prod.fst (Prod.snd b0))))
    else (if IntKind.wrap IntKind.i64 ((↑(ByteArray.size v0) : Int) - Prod.fst (Prod.snd b1)) < Prod.fst b1 then (some (([], 2, (↑(ByteArray.size v0) : Int))))
     else (if -9223372036854775808 ≤ Prod.fst b0 ∧ Prod.fst b0 ≤ 9223372036854775807 then (if Prod.fst b0 ∈ v2 then (some (([], 10, v1)))
       else (if -9223372036854775808 ≤ Prod.fst b0 ∧ Prod.fst b0 ≤ 9223372036854775807 ∧ List.length v2 < 9223372036854775807 then ((ssub v0 (Prod.fst (Prod.snd b1)) (IntKind.wrap IntKind.i64 (Prod.fst (Prod.snd b1) + Prod.fst b1))).bind fun b2 =>
         ((lcat 24 [] [(Prod.fst b0, b2)]).bind fun b3 =>
         (tlv_Get.l1 n v0 b3 (IntKind.wrap IntKind.i64 (Prod.fst (Prod.snd b1) + Prod.fst b1)) (v2 ++ [Prod.fst b0]))))
        else none))
      else none))))))
  else (some (([], 0, 0)))) := by kernel_rfl
-- the loop at region 4
theorem tlv_Get.l1_eq (n : Nat) (v0 : ByteArray) (v1 : List ((Int × ByteArray))) (v2 : Int) (v3 : List Int) : tlv_Get.l1 (n + 1) v0 v1 v2 v3 =
  (if v2 < (↑(ByteArray.size v0) : Int) then ((tag_Get.f (v0, v2)).bind fun b4 =>
   (if ¬Prod.snd (Prod.snd b4) = 0 then (some (([], Prod.snd (Prod.snd b4), v2)))
   else ((ber_Get.f (v0, Prod.fst (Prod.snd b4))).bind fun b5 =>
    (if ¬Prod.snd (Prod.snd b5) = 0 then (some (([], Prod.snd (Prod.snd b5), Prod.fst (Prod.snd b4))))
    else (if IntKind.wrap IntKind.i64 ((↑(ByteArray.size v0) : Int) - Prod.fst (Prod.snd b5)) < Prod.fst b5 then (some (([], 2, (↑(ByteArray.size v0) : Int))))
     else (if -9223372036854775808 ≤ Prod.fst b4 ∧ Prod.fst b4 ≤ 9223372036854775807 then (if Prod.fst b4 ∈ v3 then (some (([], 10, v2)))
       else (if -9223372036854775808 ≤ Prod.fst b4 ∧ Prod.fst b4 ≤ 9223372036854775807 ∧ List.length v3 < 9223372036854775807 then ((ssub v0 (Prod.fst (Prod.snd b5)) (IntKind.wrap IntKind.i64 (Prod.fst (Prod.snd b5) + Prod.fst b5))).bind fun b6 =>
         ((lcat 24 v1 [(Prod.fst b4, b6)]).bind fun b7 =>
         (tlv_Get.l1 n v0 b7 (IntKind.wrap IntKind.i64 (Prod.fst (Prod.snd b5) + Prod.fst b5)) (v3 ++ [Prod.fst b4]))))
        else none))
      else none))))))
  else (some ((v1, 0, 0)))) := by kernel_rfl
theorem tlv_Get.eq (n : Nat) (a0 : ByteArray) : call tlv_Get.C Try.f92 tlv_Get.code tlv_Get.sg tlv_Get.rs n a0 =
  (tlv_Get.l0 n a0 0 []) := by kernel_rfl
def tlv_Get.f (s : ByteArray) : Option (List (Int × ByteArray) × Int × Int) := if s.size ≤ 1000000000000 then some (tlvG (s.size + 1) (bl s) 0 []) else none
theorem tlv_Get (l : List UInt8) (hl : l.length ≤ 1000000000000) : tlv_Get.f (sb l) = some (tlvG (l.length + 1) l 0 []) := by
  unfold tlv_Get.f
  rw [if_pos (by rw [size_sb]; exact hl), size_sb, bl_sb]
theorem tlv_Get_l1 (l : List UInt8) (hl : l.length ≤ 1000000000000) : ∀ (k i : Nat) (o : List (Int × ByteArray)), i ≤ l.length → o.length ≤ i → l.length < k + i →
    tlv_Get.l1 k (sb l) o (i : Int) (o.map Prod.fst) = some (tlvG k l i o)
  | 0, i, o, hi, ho, hk => absurd hk (by omega)
  | k + 1, i, o, hi, ho, hk => by
    rw [tlv_Get.l1_eq, size_sb]
    by_cases c : i < l.length
    · rw [if_pos (by omega), tag_Get l (by omega) i hi, Option.bind_some]
      rcases tlvG_step (k := k) (o := o) hl c with ⟨e, he, h1, h2⟩ | ⟨t, n, e, h1, hn, he, h2, h3⟩ | ⟨t, n, z, m, ht, h1, hn, hin, h2, hnm, hm, hz, h3⟩
      · rw [h1, if_pos he, h2]
      · rw [h1, if_neg (by simp)]
        dsimp only
        rw [ber_Get l (by omega) n hn, Option.bind_some, h2, if_pos he, h3]
      · rw [h1, if_neg (by simp)]
        dsimp only
        rw [ber_Get l (by omega) n hn, Option.bind_some, h2, if_neg (by simp), h3]
        dsimp only
        rw [wrap_id (x := (l.length : Int) - (m : Int)) (by omega) (by omega), show IntKind.wrap .i64 ((m : Int) + (z : Int)) = ((m + z : Nat) : Int) by rw [wrap_id (by omega) (by omega)]; omega]
        by_cases c3 : l.length < m + z
        · rw [if_pos (by omega), if_pos c3]
        · rw [if_neg (by omega), if_neg c3, if_pos (by omega)]
          by_cases c4 : t ∈ o.map Prod.fst
          · rw [if_pos c4, if_pos c4]
          · rw [if_neg c4, if_neg c4, if_pos ⟨by omega, by omega, by rw [List.length_map]; omega⟩, ssub_sb _ _ _ (by omega) (by omega), Option.bind_some, lcat_ok _ _ _ (by simp only [List.length_cons, List.length_nil]; omega), Option.bind_some]
            have := tlv_Get_l1 l hl k (m + z) (o ++ [(t, sb ((l.take (m + z)).drop m))]) (by omega) (by rw [List.length_append]; simp only [List.length_cons, List.length_nil]; omega) (by omega)
            rw [List.map_append] at this
            exact this
    · rw [if_neg (by omega), tlvG, if_neg c]
theorem tlv_Get.run (l : List UInt8) (hl : l.length ≤ 1000000000000) : call tlv_Get.C Try.f92 tlv_Get.code tlv_Get.sg tlv_Get.rs (l.length + 1) (sb l) = some (tlvG (l.length + 1) l 0 []) := by
  rw [tlv_Get.eq, tlv_Get.l0_eq, size_sb]
  by_cases c : 0 < l.length
  · have t0 := tag_Get l (by omega) 0 (Nat.zero_le _)
    have t0 : tag_Get.f (sb l, 0) = _ := t0
    rw [if_pos (by omega), t0, Option.bind_some]
    rcases tlvG_step (k := l.length) (o := []) hl c with ⟨e, he, h1, h2⟩ | ⟨t, n, e, h1, hn, he, h2, h3⟩ | ⟨t, n, z, m, ht, h1, hn, hin, h2, hnm, hm, hz, h3⟩
    · rw [h1, if_pos he, h2]; rfl
    · rw [h1, if_neg (by simp)]
      dsimp only
      rw [ber_Get l (by omega) n hn, Option.bind_some, h2, if_pos he, h3]
    · rw [h1, if_neg (by simp)]
      dsimp only
      rw [ber_Get l (by omega) n hn, Option.bind_some, h2, if_neg (by simp), h3]
      dsimp only
      rw [wrap_id (x := (l.length : Int) - (m : Int)) (by omega) (by omega), show IntKind.wrap .i64 ((m : Int) + (z : Int)) = ((m + z : Nat) : Int) by rw [wrap_id (by omega) (by omega)]; omega]
      by_cases c3 : l.length < m + z
      · rw [if_pos (by omega), if_pos c3]
      · have e1 : ¬ t ∈ ([] : List Int) := by simp
        have e2 : ¬ t ∈ ([] : List (Int × ByteArray)).map Prod.fst := by simp
        rw [if_neg (by omega), if_neg c3, if_pos (by omega), if_neg e1, if_neg e2, if_pos ⟨by omega, by omega, by simp⟩, ssub_sb _ _ _ (by omega) (by omega), Option.bind_some, lcat_ok _ _ _ (by simp only [List.length_cons, List.length_nil]; omega), Option.bind_some]
        exact tlv_Get_l1 l hl l.length (m + z) [(t, sb ((l.take (m + z)).drop m))] (by omega) (by simp only [List.length_cons, List.length_nil]; omega) (by omega)
  · rw [if_neg (by omega), tlvG, if_neg c]
noncomputable def tlv_Get.c : Con := ⟨92, tlv_Get.sg, tlv_Get.rs, tlv_Get.f⟩
theorem tlv_Get.con : ConOk Try.prog tlv_Get.c := walked (C := tlv_Get.C) rfl (by kernel_rfl) (by kernel_rfl) (by kernel_rfl) rfl ⟨tag_Get.con, ber_Get.con, trivial⟩ fun s y h => by
  obtain ⟨l, rfl⟩ := ex_sb s
  have h : tlv_Get.f (sb l) = some y := h
  unfold tlv_Get.f at h
  split at h
  · rename_i hc
    rw [size_sb] at hc
    rw [size_sb, bl_sb] at h
    exact ⟨l.length + 1, (tlv_Get.run l hc).trans h⟩
  · cases h
end Go.Proofs.Ytjbhknfdfnilbaa.Xe
