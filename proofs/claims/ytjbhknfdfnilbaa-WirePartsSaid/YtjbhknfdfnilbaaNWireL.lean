/- More on the bytes of messages, in plain words. -/
import Derived.Test.YtjbhknfdfnilbaaNgf
import Derived.Test.YtjbhknfdfnilbaaNRej
namespace Go.Proofs.Ytjbhknfdfnilbaa.Sp
open Go Go.RowKit
set_option linter.unusedVariables false
set_option linter.unusedSimpArgs false
theorem wire_prefix {x : Int × Int × List S5} {ta tb : List UInt8} {la lb : List V} (ha : msgE x ta la = (0, 0)) (hb : msgE x tb lb = (0, 0)) (h : (wireB x.1 x.2.2 tb lb).take (wireB x.1 x.2.2 ta la).length = wireB x.1 x.2.2 ta la) : ta = tb ∧ la = lb := by
  have e : wireB x.1 x.2.2 tb lb = wireB x.1 x.2.2 ta la ++ (wireB x.1 x.2.2 tb lb).drop (wireB x.1 x.2.2 ta la).length := by
    conv => lhs; rw [← List.take_append_drop (wireB x.1 x.2.2 ta la).length (wireB x.1 x.2.2 tb lb), h]
  have d1 := decM_put ha ((wireB x.1 x.2.2 tb lb).drop (wireB x.1 x.2.2 ta la).length)
  have d2 := decM_put hb []
  rw [List.append_nil] at d2
  rw [← e, d2] at d1
  have := congrArg Prod.fst d1
  exact ⟨(congrArg Prod.fst this).symm, (congrArg Prod.snd this).symm⟩
theorem low_iff {s : List S5} {l : List V} (h : Rise s 0 l) : (setV l).2 = 0 ↔ ∀ n ∈ l.map Prod.fst, n ≤ 64 := by
  have hlt := (setV_lt l).2
  rw [bits_zero hlt]
  constructor
  · intro hz n hn
    have hb := (rise_all h).1 n hn
    rcases Int.lt_or_le 64 n with c | c
    · obtain ⟨m, rfl⟩ := Int.eq_ofNat_of_zero_le (show 0 ≤ n by omega)
      have h1 := hz (m - 65) (by omega)
      have h2 := (all_bit (l.map Prod.fst) (0, 0) (m - 65) (by omega)).2
      rw [Nat.zero_testBit, Bool.false_or, show 65 + (m - 65) = m by omega, decide_eq_true hn] at h2
      unfold setV at h1
      rw [h1] at h2; cases h2
    · exact c
  · intro hz j hj
    have h2 := (all_bit (l.map Prod.fst) (0, 0) j hj).2
    rw [Nat.zero_testBit, Bool.false_or, decide_eq_false (fun hm => by have := hz _ hm; omega)] at h2
    exact h2
theorem bits_len {st : Int} (hs : st = 1 ∨ st = 2) {s : List S5} {l : List V} (h : Rise s 0 l) : (bitsB st l).length = (if st = 1 then 2 else 1) * (if (setV l).2 = 0 then 8 else 16) := by
  rw [bitsB_eq st hs h, enc8_length]
  congr 1
  unfold bitRaw
  by_cases c : (setV l).2 = 0
  · rw [if_pos c, if_pos c, be8_length]
  · rw [if_neg c, if_neg c, List.length_append, be8_length, be8_length]
theorem fields_ins (st : Int) (s : List S5) (n : Int) (z : ByteArray) (l : List V) : (fieldsB st s (insV n z l)).length = (fieldsB st s l).length + (cellB st s (n, z)).length := by
  have e : fieldsB st s l = fieldsB st s (l.take (upTo n l)) ++ fieldsB st s (l.drop (upTo n l)) := by
    unfold fieldsB
    rw [← List.flatMap_append, List.take_append_drop]
  rw [insV_cut, e]
  unfold fieldsB
  rw [List.flatMap_append, List.flatMap_append, List.length_append, List.length_append, List.length_append, List.flatMap_cons, List.flatMap_nil, List.append_nil]
  omega
theorem next64 (h l : Nat) (hl : l < 18446744073709551616) : nextS h l 64 = 0 ↔ l = 0 := by
  have hm : l * 2 ^ (64 - 64) % 18446744073709551616 = l := by rw [Nat.sub_self, Nat.pow_zero, Nat.mul_one, Nat.mod_eq_of_lt hl]
  obtain ⟨h1, h2⟩ := from_low (h := h) (l := l) (n := 64) (Nat.le_refl _) (by decide)
  rw [hm] at h1 h2
  unfold nextS
  constructor
  · intro e
    by_cases c : l = 0
    · exact c
    · rw [h2 c] at e
      have e : (((64 + (64 - blen l) + 1 : Nat)) : Int) = 0 := e
      omega
  · intro c
    rw [h1 c]; rfl
theorem wire_adds {st : Int} (hs : st = 1 ∨ st = 2) {s : List S5} {t : List UInt8} {l : List V} {n : Int} {z : ByteArray} (ha : Rise s 0 (without n l)) (hb : Rise s 0 (withV n z l)) :
    (wireB st s t (withV n z l)).length = (wireB st s t (without n l)).length + (cellB st s (n, z)).length + (if n > 64 ∧ (setV (without n l)).2 = 0 then (if st = 1 then 16 else 8) else 0) := by
  have hf : (fieldsB st s (withV n z l)).length = (fieldsB st s (without n l)).length + (cellB st s (n, z)).length := fields_ins st s n z _
  have h1 := bits_len hs ha
  have h2 := bits_len hs hb
  have i1 := low_iff ha
  have i2 := low_iff hb
  have hp := withV_fst n z l
  rw [← without_fst] at hp
  have hm : ∀ m, m ∈ (withV n z l).map Prod.fst ↔ m = n ∨ m ∈ (without n l).map Prod.fst := fun m => by rw [hp.mem_iff, List.mem_cons]
  unfold wireB
  rw [List.length_append, List.length_append, List.length_append, List.length_append, hf, h1, h2]
  by_cases c : (setV (without n l)).2 = 0
  · have k1 := i1.1 c
    by_cases c2 : n > 64
    · have c3 : ¬ (setV (withV n z l)).2 = 0 := fun e => by have := i2.1 e n ((hm n).2 (.inl rfl)); omega
      rw [if_neg c3, if_pos c, if_pos (show n > 64 ∧ (setV (without n l)).2 = 0 from ⟨c2, c⟩)]
      rcases hs with rfl | rfl
      · simp; omega
      · simp; omega
    · have c3 : (setV (withV n z l)).2 = 0 := i2.2 fun m hmm => by
        rcases (hm m).1 hmm with rfl | hmm
        · omega
        · exact k1 m hmm
      rw [if_pos c3, if_pos c, if_neg (show ¬ (n > 64 ∧ (setV (without n l)).2 = 0) from fun q => c2 q.1)]
      omega
  · have c3 : ¬ (setV (withV n z l)).2 = 0 := fun e => c (i1.2 fun m hmm => i2.1 e m ((hm m).2 (.inr hmm)))
    rw [if_neg c3, if_neg c, if_neg (show ¬ (n > 64 ∧ (setV (without n l)).2 = 0) from fun q => c q.2)]
    omega
theorem cellB_pos {st : Int} (hs : st = 1 ∨ st = 2) {s : List S5} {v : V} (h : rightV s v) : 0 < (cellB st s v).length := by
  have h2 := h.2
  have hb := body_size st _ _ _ _ _ (bl v.2) h2
  obtain ⟨h0, h3, -, -⟩ := specV_zero h2
  have hz := (specE_zero h0).2.2.2.1
  unfold cellB cellPut
  rw [if_neg (not_not_intro hs), if_neg (not_not_intro h2)]
  dsimp only
  rw [List.length_append, hb]
  have : 0 < cellSize (cellHow st (findS v.1 s).1.2.1) (bl v.2).length := by
    unfold cellSize
    split
    · omega
    · split <;> omega
  omega
end Go.Proofs.Ytjbhknfdfnilbaa.Sp
