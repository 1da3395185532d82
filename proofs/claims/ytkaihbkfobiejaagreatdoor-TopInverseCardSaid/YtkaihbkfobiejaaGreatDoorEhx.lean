/- What the program's functions on hex digits answer. -/
import Derived.Test.YtkaihbkfobiejaaGreatDoorNgb
import Derived.Test.YtkaihbkfobiejaaGreatDoorXgh
namespace Go.Proofs.YtkaihbkfobiejaaGreatDoor.Xe
open Go Go.RowKit Go.Proofs.YtkaihbkfobiejaaGreatDoor.Sp
set_option linter.unusedVariables false
set_option linter.unusedSimpArgs false
set_option maxRecDepth 100000
theorem hd256 : ∀ n : Fin 256, bget (ByteArray.mk #[48, 49, 50, 51, 52, 53, 54, 55, 56, 57, 65, 66, 67, 68, 69, 70]) (Int.fdiv ((n.val : Nat) : Int) (2 ^ 4)) = some (hexD (n.val / 16)) ∧ bget (ByteArray.mk #[48, 49, 50, 51, 52, 53, 54, 55, 56, 57, 65, 66, 67, 68, 69, 70]) (bits BinOp.and IntKind.u8 ((n.val : Nat) : Int) 15) = some (hexD (n.val % 16)) := by decide +kernel
/-! ### hexa_Put -/
@[reducible] def hexa_Put.sg : List Shp := [.v (.str)]
@[reducible] def hexa_Put.rs : Rs := .one (.v (.str))
@[reducible] noncomputable def hexa_Put.code : Code := Tryz.f85.body.getD .skip
noncomputable def hexa_Put.C : Ctx := ⟨tab, [], [], ⟨[(3, [0, 3, 4], 0)], []⟩⟩
noncomputable def hexa_Put.l0 (n : Nat) (v0 : ByteArray) (v1 : List Int) (v2 : Int) : Option ByteArray := run hexa_Put.C (finOf hexa_Put.C Tryz.f85 hexa_Put.rs) n (todoAt 3 hexa_Put.code) ⟨[.str v0, .junk, .junk, .sl (some 0) (.int .u8) v1, .int .i64 v2, .junk, .junk, .junk, .junk, .junk, .junk, .junk, .junk, .junk, .junk, .junk, .junk, .junk, .junk, .junk, .junk, .junk, .junk, .junk, .junk, .junk, .junk, .junk, .junk, .junk], [], [true]⟩
-- the loop at region 3
theorem hexa_Put.l0_eq (n : Nat) (v0 : ByteArray) (v1 : List Int) (v2 : Int) : hexa_Put.l0 (n + 1) v0 v1 v2 =
  (if v2 < (↑(ByteArray.size v0) : Int) then ((bget v0 v2).bind fun b0 =>
   ((bget (ByteArray.mk #[48, 49, 50, 51, 52, 53, 54, 55, 56, 57, 65, 66, 67, 68, 69, 70]) (Int.fdiv (↑(UInt8.toNat b0) : Int) (2 ^ 4))).bind fun b1 =>
   ((bget v0 v2).bind fun b2 =>
   ((bget (ByteArray.mk #[48, 49, 50, 51, 52, 53, 54, 55, 56, 57, 65, 66, 67, 68, 69, 70]) (bits BinOp.and IntKind.u8 (↑(UInt8.toNat b2) : Int) 15)).bind fun b3 =>
   ((lcat 1 v1 [(↑(UInt8.toNat b1) : Int), (↑(UInt8.toNat b3) : Int)]).bind fun b4 =>
   (hexa_Put.l0 n v0 b4 (IntKind.wrap IntKind.i64 (v2 + 1))))))))
  else (some (bytesOf v1))) := by kernel_rfl
theorem hexa_Put.eq (n : Nat) (a0 : ByteArray) : call hexa_Put.C Tryz.f85 hexa_Put.code hexa_Put.sg hexa_Put.rs n a0 =
  (if (0 : Int) = 0 ∧ 0 ≤ IntKind.wrap IntKind.i64 (2 * (↑(ByteArray.size a0) : Int)) ∧ 1 * IntKind.wrap IntKind.i64 (2 * (↑(ByteArray.size a0) : Int)) ≤ 281474976710656 ∧ IntKind.wrap IntKind.i64 (2 * (↑(ByteArray.size a0) : Int)) ≤ 9223372036854775807 then (hexa_Put.l0 n a0 [] 0)
  else none) := by kernel_rfl
def hexa_Put.f (s : ByteArray) : Option ByteArray := if s.size ≤ 35184372088832 then some (sb (hexPut (bl s))) else none
theorem hexa_Put_l (l : List UInt8) (hl : l.length ≤ 35184372088832) : ∀ (m o : List UInt8) (k i : Nat), i + m.length = l.length → l.drop i = m → o.length = 2 * i → m.length < k →
    hexa_Put.l0 k (sb l) (ints o) (i : Int) = some (sb (o ++ hexPut m))
  | [], o, k, i, hi, hd, ho, hk => by
    obtain ⟨k, rfl⟩ : ∃ m, k = m + 1 := ⟨k - 1, by omega⟩
    have hi' : i = l.length := by simpa using hi
    rw [hexa_Put.l0_eq, if_neg (by rw [size_sb]; omega), str_ints]; simp [hexPut]
  | a :: m, o, k, i, hi, hd, ho, hk => by
    obtain ⟨k, rfl⟩ : ∃ m, k = m + 1 := ⟨k - 1, by omega⟩
    have hi' : i + (m.length + 1) = l.length := by simpa using hi
    have hk' : m.length < k := by simp at hk; omega
    have b0 : (i : Int) < (l.length : Int) := by omega
    have hi2 : i + 1 + m.length = l.length := by omega
    have ho2 : o.length + 2 = 2 * (i + 1) := by omega
    obtain ⟨hlt, -, hd2⟩ := drop_cons hd
    obtain ⟨p1, p2⟩ := hd256 ⟨a.toNat, u8_lt a⟩
    have e : ints o ++ [((hexD (a.toNat / 16)).toNat : Int), ((hexD (a.toNat % 16)).toNat : Int)] = ints (o ++ [hexD (a.toNat / 16), hexD (a.toNat % 16)]) := by simp [ints]
    rw [hexa_Put.l0_eq, if_pos (by rw [size_sb]; exact b0), bget_drop hd, Option.bind_some, p1, Option.bind_some, Option.bind_some, p2, Option.bind_some, lcat_ok _ _ _ (by rw [ints_length]; simp only [List.length_cons, List.length_nil]; omega), Option.bind_some, wrap_succ (by omega), e, hexa_Put_l l hl m _ k (i + 1) hi2 hd2 (by rw [List.length_append]; exact ho2) hk', hexPut]
    simp
theorem hexa_Put (l : List UInt8) (hl : l.length ≤ 35184372088832) : hexa_Put.f (sb l) = some (sb (hexPut l)) := by
  unfold hexa_Put.f
  rw [if_pos (by rw [size_sb]; exact hl), bl_sb]
theorem hexa_Put.run (l : List UInt8) (hl : l.length ≤ 35184372088832) : call hexa_Put.C Tryz.f85 hexa_Put.code hexa_Put.sg hexa_Put.rs (l.length + 1) (sb l) = some (sb (hexPut l)) := by
  rw [hexa_Put.eq, size_sb, wrap_id (by omega) (by omega), if_pos ⟨rfl, by omega, by omega, by omega⟩]
  exact hexa_Put_l l hl l [] _ 0 (by simp) rfl rfl (by omega)
noncomputable def hexa_Put.c : Con := ⟨85, hexa_Put.sg, hexa_Put.rs, hexa_Put.f⟩
theorem hexa_Put.con : ConOk Tryz.prog hexa_Put.c := walked (C := hexa_Put.C) rfl (by kernel_rfl) (by kernel_rfl) (by kernel_rfl) rfl trivial fun s y h => by
  obtain ⟨l, rfl⟩ := ex_sb s
  have h : hexa_Put.f (sb l) = some y := h
  unfold hexa_Put.f at h
  split at h
  · rename_i hc
    rw [size_sb] at hc
    exact ⟨_, (hexa_Put.run l hc).trans h⟩
  · cases h
/-! ### hexa_Digit -/
@[reducible] def hexa_Digit.sg : List Shp := [.v (.int .u8)]
@[reducible] def hexa_Digit.rs : Rs := .tup [.v (.int .i64), .v (.bool)]
@[reducible] noncomputable def hexa_Digit.code : Code := Tryz.f131.body.getD .skip
noncomputable def hexa_Digit.C : Ctx := ⟨tab, [], [], ⟨[], []⟩⟩
theorem hexa_Digit.eq (n : Nat) (a0 : Int) : call hexa_Digit.C Tryz.f131 hexa_Digit.code hexa_Digit.sg hexa_Digit.rs n a0 =
  (if a0 ≥ 48 then (if a0 ≤ 57 then (some ((IntKind.wrap IntKind.i64 (IntKind.wrap IntKind.u8 (a0 - 48)), true)))
   else (if a0 ≥ 65 then (if a0 ≤ 70 then (some ((IntKind.wrap IntKind.i64 (IntKind.wrap IntKind.i64 (IntKind.wrap IntKind.u8 (a0 - 65)) + 10), true)))
     else (some ((0, false))))
    else (some ((0, false)))))
  else (if a0 ≥ 65 then (if a0 ≤ 70 then (some ((IntKind.wrap IntKind.i64 (IntKind.wrap IntKind.i64 (IntKind.wrap IntKind.u8 (a0 - 65)) + 10), true)))
    else (some ((0, false))))
   else (some ((0, false))))) := by kernel_rfl
noncomputable def hexa_Digit.f : El (sgTy hexa_Digit.sg) → Option (El hexa_Digit.rs.ty) := fun x => match x with
  | a0 =>
  (if a0 ≥ 48 then (if a0 ≤ 57 then (some ((IntKind.wrap IntKind.i64 (IntKind.wrap IntKind.u8 (a0 - 48)), true)))
   else (if a0 ≥ 65 then (if a0 ≤ 70 then (some ((IntKind.wrap IntKind.i64 (IntKind.wrap IntKind.i64 (IntKind.wrap IntKind.u8 (a0 - 65)) + 10), true)))
     else (some ((0, false))))
    else (some ((0, false)))))
  else (if a0 ≥ 65 then (if a0 ≤ 70 then (some ((IntKind.wrap IntKind.i64 (IntKind.wrap IntKind.i64 (IntKind.wrap IntKind.u8 (a0 - 65)) + 10), true)))
    else (some ((0, false))))
   else (some ((0, false)))))
noncomputable def hexa_Digit.c : Con := ⟨131, hexa_Digit.sg, hexa_Digit.rs, hexa_Digit.f⟩
theorem hexa_Digit.con : ConOk Tryz.prog hexa_Digit.c := walked (C := hexa_Digit.C) rfl (by kernel_rfl) (by kernel_rfl) (by kernel_rfl) rfl trivial fun a0 y h => ⟨0, (hexa_Digit.eq 0 a0).trans h⟩
theorem hexa_Digit256 : ∀ n : Fin 256, hexa_Digit.f ((n.val : Nat) : Int) = some (hexP (u8 n.val)) := by decide +kernel
theorem hexa_Digit (x : UInt8) : hexa_Digit.f (x.toNat : Int) = some (hexP x) := by
  have := hexa_Digit256 ⟨x.toNat, u8_lt x⟩
  simp only [u8_of_nat] at this
  exact this
theorem orw256 : ∀ a b : Fin 16, IntKind.wrap IntKind.u8 (bits BinOp.or IntKind.i64 (IntKind.wrap IntKind.i64 (((a.val : Nat) : Int) * 2 ^ 4)) ((b.val : Nat) : Int)) = ((16 * a.val + b.val : Nat) : Int) := by decide +kernel
/-! ### hexa_Get -/
@[reducible] def hexa_Get.sg : List Shp := [.v (.str)]
@[reducible] def hexa_Get.rs : Rs := .tup [.v (.str), .v (.int .i64), .v (.bool)]
@[reducible] noncomputable def hexa_Get.code : Code := Tryz.f95.body.getD .skip
noncomputable def hexa_Get.C : Ctx := ⟨tab, [hexa_Digit.c], [], ⟨[(4, [0, 5, 6, 7], 0)], []⟩⟩
noncomputable def hexa_Get.l0 (n : Nat) (v0 : ByteArray) (v1 : List Int) (v2 : Int) (v3 : Int) : Option ((ByteArray × (Int × Bool))) := run hexa_Get.C (finOf hexa_Get.C Tryz.f95 hexa_Get.rs) n (todoAt 4 hexa_Get.code) ⟨[.str v0, .junk, .junk, .junk, .junk, .sl (some 0) (.int .u8) v1, .int .i64 v2, .int .i64 v3, .junk, .junk, .junk, .junk, .junk, .junk, .junk, .junk, .junk, .junk, .junk, .junk, .junk, .junk, .junk, .junk, .junk, .junk, .junk, .junk, .junk, .junk, .junk, .junk, .junk, .junk, .junk, .junk, .junk, .junk, .junk, .junk, .junk, .junk, .junk, .junk, .junk, .junk, .junk, .junk, .junk, .junk, .junk, .junk], [], [true]⟩
-- the loop at region 4
theorem hexa_Get.l0_eq (n : Nat) (v0 : ByteArray) (v1 : List Int) (v2 : Int) (v3 : Int) : hexa_Get.l0 (n + 1) v0 v1 v2 v3 =
  (if v3 < (↑(ByteArray.size v0) : Int) then ((bget v0 v3).bind fun b0 =>
   ((hexa_Digit.f (↑(UInt8.toNat b0) : Int)).bind fun b1 =>
   (if ¬Prod.snd b1 = true then (some ((ByteArray.mk #[], v3, false)))
   else (if Int.tmod v3 2 = 0 then (hexa_Get.l0 n v0 v1 (Prod.fst b1) (IntKind.wrap IntKind.i64 (v3 + 1)))
    else ((lcat 1 v1 [IntKind.wrap IntKind.u8 (bits BinOp.or IntKind.i64 (IntKind.wrap IntKind.i64 (v2 * 2 ^ 4)) (Prod.fst b1))]).bind fun b2 =>
     (hexa_Get.l0 n v0 b2 v2 (IntKind.wrap IntKind.i64 (v3 + 1))))))))
  else (if ¬Int.tmod (↑(ByteArray.size v0) : Int) 2 = 0 then (some ((ByteArray.mk #[], (↑(ByteArray.size v0) : Int), false)))
   else (some ((bytesOf v1, 0, true))))) := by kernel_rfl
theorem hexa_Get.eq (n : Nat) (a0 : ByteArray) : call hexa_Get.C Tryz.f95 hexa_Get.code hexa_Get.sg hexa_Get.rs n a0 =
  (if (0 : Int) = 0 ∧ 0 ≤ IntKind.wrap IntKind.i64 (Int.tdiv (↑(ByteArray.size a0) : Int) 2) ∧ 1 * IntKind.wrap IntKind.i64 (Int.tdiv (↑(ByteArray.size a0) : Int) 2) ≤ 281474976710656 ∧ IntKind.wrap IntKind.i64 (Int.tdiv (↑(ByteArray.size a0) : Int) 2) ≤ 9223372036854775807 then (hexa_Get.l0 n a0 [] 0 0)
  else none) := by kernel_rfl
def hexa_Get.f (s : ByteArray) : Option (ByteArray × Int × Bool) := if s.size ≤ 140737488351232 then some (sb (hexGet (bl s)).1, (hexGet (bl s)).2.1, (hexGet (bl s)).2.2) else none
theorem hexa_Get (l : List UInt8) (hl : l.length ≤ 140737488351232) : hexa_Get.f (sb l) = some (sb (hexGet l).1, (hexGet l).2.1, (hexGet l).2.2) := by
  unfold hexa_Get.f
  rw [if_pos (by rw [size_sb]; exact hl), bl_sb]
theorem hexa_Get_l (l : List UInt8) (hl : l.length ≤ 140737488351232) : ∀ (m o : List UInt8) (h : Int) (k i : Nat), i + m.length = l.length → i % 2 = 0 → l.drop i = m → 2 * o.length ≤ i → m.length + 2 < k →
    hexa_Get.l0 k (sb l) (ints o) h (i : Int) = some (sb (hexFrom i o m).1, (hexFrom i o m).2.1, (hexFrom i o m).2.2)
  | [], o, h, k, i, hi, h2, hd, ho, hk => by
    obtain ⟨k, rfl⟩ : ∃ m, k = m + 1 := ⟨k - 1, by omega⟩
    have hi' : i = l.length := by simpa using hi
    have t : Int.tmod (l.length : Int) 2 = ((l.length % 2 : Nat) : Int) := tmod_nat l.length 2
    rw [hexa_Get.l0_eq, size_sb, if_neg (by omega), t, if_neg (by omega), str_ints]; rfl
  | [a], o, h, k, i, hi, h2, hd, ho, hk => by
    obtain ⟨k, rfl⟩ : ∃ m, k = m + 2 := ⟨k - 2, by simp at hk; omega⟩
    have hi' : i + 1 = l.length := by simpa using hi
    have t0 : Int.tmod (i : Int) 2 = 0 := (tmod_nat i 2).trans (by rw [h2]; rfl)
    have t : Int.tmod (l.length : Int) 2 = ((l.length % 2 : Nat) : Int) := tmod_nat l.length 2
    rw [show k + 2 = k + 1 + 1 from rfl, hexa_Get.l0_eq, size_sb, if_pos (by omega), bget_drop hd, Option.bind_some, hexa_Digit a, Option.bind_some, hexFrom]
    by_cases hx : hexOk a = true
    · rw [hexP_pos hx, if_pos hx]
      dsimp only
      rw [if_neg (by decide), if_pos t0, wrap_succ (by omega), hexa_Get.l0_eq, size_sb, if_neg (by omega), t, if_pos (by omega), ← hi']; rfl
    · rw [hexP_neg hx, if_neg hx]; rfl
  | a :: b :: m, o, h, k, i, hi, h2, hd, ho, hk => by
    obtain ⟨k, rfl⟩ : ∃ m, k = m + 2 := ⟨k - 2, by simp at hk; omega⟩
    have hi' : i + (m.length + 2) = l.length := by simpa using hi
    have hk' : m.length + 2 < k := by simp at hk; omega
    have hm1 : (i + 1) % 2 = 1 := by omega
    have hm2 : (i + 2) % 2 = 0 := by omega
    obtain ⟨-, -, hd1⟩ := drop_cons hd
    obtain ⟨-, -, hd2⟩ := drop_cons hd1
    have t0 : Int.tmod (i : Int) 2 = 0 := (tmod_nat i 2).trans (by rw [h2]; rfl)
    have t1 : Int.tmod ((i + 1 : Nat) : Int) 2 = 1 := (tmod_nat (i + 1) 2).trans (by rw [hm1]; rfl)
    rw [hexFrom, show k + 2 = k + 1 + 1 from rfl, hexa_Get.l0_eq, size_sb, if_pos (by omega), bget_drop hd, Option.bind_some, hexa_Digit a, Option.bind_some]
    by_cases hx : hexOk a = true
    · rw [hexP_pos hx, if_pos hx]
      dsimp only
      rw [if_neg (by decide), if_pos t0, wrap_succ (by omega), hexa_Get.l0_eq, size_sb, if_pos (by omega), bget_drop hd1, Option.bind_some, hexa_Digit b, Option.bind_some]
      by_cases hy : hexOk b = true
      · rw [hexP_pos hy, if_pos hy]
        have h1 := hexV_lt hx
        have h3 := hexV_lt hy
        have hv : 16 * hexV a + hexV b < 256 := by omega
        have e := orw256 ⟨hexV a, h1⟩ ⟨hexV b, h3⟩
        simp only at e
        dsimp only
        rw [if_neg (by decide), t1, if_neg (by decide), e, lcat_ok _ _ _ (by rw [ints_length]; simp only [List.length_cons, List.length_nil]; omega), Option.bind_some, ints_snoc o _ hv, wrap_succ (by omega)]
        exact hexa_Get_l l hl m _ _ k (i + 2) (by omega) hm2 hd2 (by rw [List.length_append]; simp only [List.length_cons, List.length_nil]; omega) hk'
      · rw [hexP_neg hy, if_neg hy]; rfl
    · rw [hexP_neg hx, if_neg hx]; rfl
theorem hexa_Get.run (l : List UInt8) (hl : l.length ≤ 140737488351232) : call hexa_Get.C Tryz.f95 hexa_Get.code hexa_Get.sg hexa_Get.rs (l.length + 3) (sb l) = some (sb (hexGet l).1, (hexGet l).2.1, (hexGet l).2.2) := by
  have t : Int.tdiv (l.length : Int) 2 = ((l.length / 2 : Nat) : Int) := tdiv_nat l.length 2
  rw [hexa_Get.eq, size_sb, t, wrap_nat (by omega), if_pos ⟨rfl, by omega, by omega, by omega⟩]
  exact hexa_Get_l l hl l [] 0 _ 0 (by simp) rfl rfl (Nat.le_refl _) (by omega)
noncomputable def hexa_Get.c : Con := ⟨95, hexa_Get.sg, hexa_Get.rs, hexa_Get.f⟩
theorem hexa_Get.con : ConOk Tryz.prog hexa_Get.c := walked (C := hexa_Get.C) rfl (by kernel_rfl) (by kernel_rfl) (by kernel_rfl) rfl ⟨hexa_Digit.con, trivial⟩ fun s y h => by
  obtain ⟨l, rfl⟩ := ex_sb s
  have h : hexa_Get.f (sb l) = some y := h
  unfold hexa_Get.f at h
  split at h
  · rename_i hc
    rw [size_sb] at hc
    exact ⟨_, (hexa_Get.run l hc).trans h⟩
  · cases h
end Go.Proofs.YtkaihbkfobiejaaGreatDoor.Xe
