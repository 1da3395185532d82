/- What the reference's functions on hex digits answer. -/
import Derived.Test.YtjbhknfdfnilbaaNgb
import Derived.Test.YtjbhknfdfnilbaaXgh
namespace Go.Proofs.Ytjbhknfdfnilbaa.Xe
open Go Go.RowKit Go.Proofs.Ytjbhknfdfnilbaa.Sp
set_option linter.unusedVariables false
set_option linter.unusedSimpArgs false
set_option maxRecDepth 100000
/-! ### groatref02_Digits -/
@[reducible] def groatref02_Digits.sg : List Shp := []
@[reducible] def groatref02_Digits.rs : Rs := .one (.v (.str))
@[reducible] noncomputable def groatref02_Digits.code : Code := Try.f112.body.getD .skip
noncomputable def groatref02_Digits.C : Ctx := ⟨tab, [], [], ⟨[], []⟩⟩
theorem groatref02_Digits.eq (n : Nat)  : call groatref02_Digits.C Try.f112 groatref02_Digits.code groatref02_Digits.sg groatref02_Digits.rs n () =
  (some (ByteArray.mk #[48, 49, 50, 51, 52, 53, 54, 55, 56, 57, 65, 66, 67, 68, 69, 70])) := by kernel_rfl
noncomputable def groatref02_Digits.f : El (sgTy groatref02_Digits.sg) → Option (El groatref02_Digits.rs.ty) := fun x => match x with
  | () =>
  (some (ByteArray.mk #[48, 49, 50, 51, 52, 53, 54, 55, 56, 57, 65, 66, 67, 68, 69, 70]))
noncomputable def groatref02_Digits.c : Con := ⟨112, groatref02_Digits.sg, groatref02_Digits.rs, groatref02_Digits.f⟩
theorem groatref02_Digits.con : ConOk Try.prog groatref02_Digits.c := walked (C := groatref02_Digits.C) rfl (by kernel_rfl) (by kernel_rfl) (by kernel_rfl) rfl trivial fun ⟨⟩ y h => ⟨0, (groatref02_Digits.eq 0 ).trans h⟩
theorem rput256 : ∀ n : Fin 256, bget (ByteArray.mk #[48, 49, 50, 51, 52, 53, 54, 55, 56, 57, 65, 66, 67, 68, 69, 70]) (IntKind.wrap .u8 (Int.tdiv ((n.val : Nat) : Int) 16)) = some (hexD (n.val / 16)) ∧ bget (ByteArray.mk #[48, 49, 50, 51, 52, 53, 54, 55, 56, 57, 65, 66, 67, 68, 69, 70]) (Int.tmod ((n.val : Nat) : Int) 16) = some (hexD (n.val % 16)) := by decide +kernel
/-! ### groatref02_Put -/
@[reducible] def groatref02_Put.sg : List Shp := [.v (.str)]
@[reducible] def groatref02_Put.rs : Rs := .one (.v (.str))
@[reducible] noncomputable def groatref02_Put.code : Code := Try.f88.body.getD .skip
noncomputable def groatref02_Put.C : Ctx := ⟨tab, [groatref02_Digits.c], [], ⟨[(3, [0, 3, 4], 0)], []⟩⟩
noncomputable def groatref02_Put.l0 (n : Nat) (v0 : ByteArray) (v1 : List Int) (v2 : Int) : Option ByteArray := run groatref02_Put.C (finOf groatref02_Put.C Try.f88 groatref02_Put.rs) n (todoAt 3 groatref02_Put.code) ⟨[.str v0, .junk, .junk, .sl (some 0) (.int .u8) v1, .int .i64 v2, .junk, .junk, .junk, .junk, .junk, .junk, .junk, .junk, .junk, .junk, .junk, .junk, .junk, .junk, .junk, .junk, .junk, .junk, .junk, .junk, .junk, .junk, .junk, .junk], [], [true]⟩
-- the loop at region 3
theorem groatref02_Put.l0_eq (n : Nat) (v0 : ByteArray) (v1 : List Int) (v2 : Int) : groatref02_Put.l0 (n + 1) v0 v1 v2 =
  (if v2 < (↑(ByteArray.size v0) : Int) then ((groatref02_Digits.f ()).bind fun b0 =>
   ((bget v0 v2).bind fun b1 =>
   ((bget b0 (IntKind.wrap IntKind.u8 (Int.tdiv (↑(UInt8.toNat b1) : Int) 16))).bind fun b2 =>
   ((groatref02_Digits.f ()).bind fun b3 =>
   ((bget v0 v2).bind fun b4 =>
   ((bget b3 (Int.tmod (↑(UInt8.toNat b4) : Int) 16)).bind fun b5 =>
   ((lcat 1 v1 [(↑(UInt8.toNat b2) : Int), (↑(UInt8.toNat b5) : Int)]).bind fun b6 =>
   (groatref02_Put.l0 n v0 b6 (IntKind.wrap IntKind.i64 (v2 + 1))))))))))
  else (some (bytesOf v1))) := by kernel_rfl
theorem groatref02_Put.eq (n : Nat) (a0 : ByteArray) : call groatref02_Put.C Try.f88 groatref02_Put.code groatref02_Put.sg groatref02_Put.rs n a0 =
  (groatref02_Put.l0 n a0 [] 0) := by kernel_rfl
def groatref02_Put.f (s : ByteArray) : Option ByteArray := if s.size ≤ 35184372088832 then some (sb (hexPut (bl s))) else none
theorem groatref02_Put (l : List UInt8) (hl : l.length ≤ 35184372088832) : groatref02_Put.f (sb l) = some (sb (hexPut l)) := by
  unfold groatref02_Put.f
  rw [if_pos (by rw [size_sb]; exact hl), bl_sb]
theorem groatref02_Put_l (l : List UInt8) (hl : l.length ≤ 35184372088832) : ∀ (m o : List UInt8) (k i : Nat), i + m.length = l.length → l.drop i = m → o.length = 2 * i → m.length < k →
    groatref02_Put.l0 k (sb l) (ints o) (i : Int) = some (sb (o ++ hexPut m))
  | [], o, k, i, hi, hd, ho, hk => by
    obtain ⟨k, rfl⟩ : ∃ m, k = m + 1 := ⟨k - 1, by omega⟩
    have hi' : i = l.length := by simpa using hi
    rw [groatref02_Put.l0_eq, if_neg (by rw [size_sb]; omega), str_ints]; simp [hexPut]
  | a :: m, o, k, i, hi, hd, ho, hk => by
    obtain ⟨k, rfl⟩ : ∃ m, k = m + 1 := ⟨k - 1, by omega⟩
    have hi' : i + (m.length + 1) = l.length := by simpa using hi
    have hk' : m.length < k := by simp at hk; omega
    have b0 : (i : Int) < (l.length : Int) := by omega
    have hi2 : i + 1 + m.length = l.length := by omega
    have ho2 : o.length + 2 = 2 * (i + 1) := by omega
    obtain ⟨hlt, -, hd2⟩ := drop_cons hd
    obtain ⟨p1, p2⟩ := rput256 ⟨a.toNat, u8_lt a⟩
    have e : ints o ++ [((hexD (a.toNat / 16)).toNat : Int), ((hexD (a.toNat % 16)).toNat : Int)] = ints (o ++ [hexD (a.toNat / 16), hexD (a.toNat % 16)]) := by simp [ints]
    simp only [groatref02_Put.l0_eq, groatref02_Digits.f, Option.bind_some]
    rw [if_pos (by rw [size_sb]; exact b0), bget_drop hd, Option.bind_some, p1, Option.bind_some, Option.bind_some, p2, Option.bind_some, lcat_ok _ _ _ (by rw [ints_length]; simp only [List.length_cons, List.length_nil]; omega), Option.bind_some, wrap_succ (by omega), e, groatref02_Put_l l hl m _ k (i + 1) hi2 hd2 (by rw [List.length_append]; exact ho2) hk', hexPut]
    simp
noncomputable def groatref02_Put.c : Con := ⟨88, groatref02_Put.sg, groatref02_Put.rs, groatref02_Put.f⟩
theorem groatref02_Put.con : ConOk Try.prog groatref02_Put.c := walked (C := groatref02_Put.C) rfl (by kernel_rfl) (by kernel_rfl) (by kernel_rfl) rfl ⟨groatref02_Digits.con, trivial⟩ fun s y h => by
  obtain ⟨l, rfl⟩ := ex_sb s
  have h : groatref02_Put.f (sb l) = some y := h
  unfold groatref02_Put.f at h
  split at h
  · rename_i hc
    rw [size_sb] at hc
    exact ⟨l.length + 1, by rw [groatref02_Put.eq]; exact (groatref02_Put_l l hc l [] _ 0 (by simp) rfl rfl (by omega)).trans h⟩
  · cases h
def worth (x : UInt8) : Int := if hexOk x = true then ((hexV x : Nat) : Int) else -1
theorem worth_neg {x : UInt8} : worth x < 0 ↔ ¬ hexOk x = true := by
  unfold worth
  by_cases h : hexOk x = true
  · rw [if_pos h]; simp [h]
  · rw [if_neg h]; simp [h]
/-! ### groatref02_Worth -/
@[reducible] def groatref02_Worth.sg : List Shp := [.v (.int .u8)]
@[reducible] def groatref02_Worth.rs : Rs := .one (.v (.int .i64))
@[reducible] noncomputable def groatref02_Worth.code : Code := Try.f120.body.getD .skip
noncomputable def groatref02_Worth.C : Ctx := ⟨tab, [groatref02_Digits.c], [], ⟨[(2, [0, 3], 0)], []⟩⟩
noncomputable def groatref02_Worth.l0 (n : Nat) (v0 : Int) (v1 : Int) : Option Int := run groatref02_Worth.C (finOf groatref02_Worth.C Try.f120 groatref02_Worth.rs) n (todoAt 2 groatref02_Worth.code) ⟨[.int .u8 v0, .junk, .junk, .int .i64 v1, .junk, .junk, .junk, .junk, .junk, .junk, .junk, .junk, .junk, .junk], [], []⟩
-- the loop at region 2
theorem groatref02_Worth.l0_eq (n : Nat) (v0 : Int) (v1 : Int) : groatref02_Worth.l0 (n + 1) v0 v1 =
  (if v1 < 16 then ((groatref02_Digits.f ()).bind fun b0 =>
   ((bget b0 v1).bind fun b1 =>
   (if (↑(UInt8.toNat b1) : Int) = v0 then (some v1)
   else (groatref02_Worth.l0 n v0 (IntKind.wrap IntKind.i64 (v1 + 1))))))
  else (some (-1))) := by kernel_rfl
theorem groatref02_Worth.eq (n : Nat) (a0 : Int) : call groatref02_Worth.C Try.f120 groatref02_Worth.code groatref02_Worth.sg groatref02_Worth.rs n a0 =
  (groatref02_Worth.l0 n a0 0) := by kernel_rfl
def groatref02_Worth.f (n : Int) : Option Int := if 0 ≤ n ∧ n < 256 then some (worth (u8 n.toNat)) else none
def worthL (b : ByteArray) (v : Int) : Nat → Int → Option Int
  | 0, _ => none
  | k + 1, i => if i < 16 then (bget b i).bind fun x => if (x.toNat : Int) = v then some i else worthL b v k (IntKind.wrap .i64 (i + 1)) else some (-1)
theorem worthL_eq (v : Int) : ∀ (k : Nat) (i : Int), (worthL (ByteArray.mk #[48, 49, 50, 51, 52, 53, 54, 55, 56, 57, 65, 66, 67, 68, 69, 70]) v k i).isSome → groatref02_Worth.l0 k v i = worthL (ByteArray.mk #[48, 49, 50, 51, 52, 53, 54, 55, 56, 57, 65, 66, 67, 68, 69, 70]) v k i
  | 0, i, h => by simp [worthL] at h
  | k + 1, i, h => by
    simp only [groatref02_Worth.l0_eq, groatref02_Digits.f, Option.bind_some]
    rw [worthL] at h ⊢
    split
    · rename_i hi
      rw [if_pos hi] at h
      cases hb : bget (ByteArray.mk #[48, 49, 50, 51, 52, 53, 54, 55, 56, 57, 65, 66, 67, 68, 69, 70]) i with
      | none => rfl
      | some x =>
        rw [hb, Option.bind_some] at h
        rw [Option.bind_some, Option.bind_some]
        split
        · rfl
        · rename_i hx
          rw [if_neg hx] at h
          exact worthL_eq v k _ h
    · rfl
theorem worth256 : ∀ n : Fin 256, worthL (ByteArray.mk #[48, 49, 50, 51, 52, 53, 54, 55, 56, 57, 65, 66, 67, 68, 69, 70]) ((n.val : Nat) : Int) 17 0 = some (worth (u8 n.val)) := by decide +kernel
theorem groatref02_Worth (x : UInt8) : groatref02_Worth.f (x.toNat : Int) = some (worth x) := by
  have := u8_lt x
  unfold groatref02_Worth.f
  rw [if_pos (by omega), Int.toNat_natCast, u8_of_nat]
noncomputable def groatref02_Worth.c : Con := ⟨120, groatref02_Worth.sg, groatref02_Worth.rs, groatref02_Worth.f⟩
theorem groatref02_Worth.con : ConOk Try.prog groatref02_Worth.c := walked (C := groatref02_Worth.C) rfl (by kernel_rfl) (by kernel_rfl) (by kernel_rfl) rfl ⟨groatref02_Digits.con, trivial⟩ fun n y h => by
  have h : groatref02_Worth.f n = some y := h
  unfold groatref02_Worth.f at h
  split at h
  · rename_i hc
    have e := worth256 ⟨n.toNat, by omega⟩
    simp only at e
    rw [show ((n.toNat : Nat) : Int) = n by omega] at e
    exact ⟨17, by rw [groatref02_Worth.eq, worthL_eq _ _ _ (by rw [e]; rfl), e]; exact h⟩
  · cases h
def unhex : List UInt8 → List UInt8
  | a :: b :: m => u8 (16 * hexV a + hexV b) :: unhex m
  | _ => []
/-- The place of the first that is no digit; the length's, if all are. -/
def bad : Nat → List UInt8 → Option Nat
  | _, [] => none
  | i, a :: m => if hexOk a = true then bad (i + 1) m else some i
theorem hexFrom_bad : ∀ (l o : List UInt8) (i : Nat), hexFrom i o l = match bad i l with
    | some j => ([], (j : Int), false)
    | none => if l.length % 2 = 1 then ([], ((i + l.length : Nat) : Int), false) else (o ++ unhex l, 0, true)
  | [], o, i => by simp [hexFrom, bad, unhex]
  | [a], o, i => by
    rw [hexFrom, bad]
    by_cases h : hexOk a = true
    · rw [if_pos h, if_pos h]; simp [bad]
    · rw [if_neg h, if_neg h]
  | a :: b :: m, o, i => by
    rw [hexFrom, bad]
    by_cases h : hexOk a = true
    · rw [if_pos h, if_pos h, bad]
      by_cases h' : hexOk b = true
      · rw [if_pos h', if_pos h', hexFrom_bad m]
        cases bad (i + 2) m with
        | some j => rfl
        | none =>
          have e1 : (a :: b :: m).length % 2 = m.length % 2 := by rw [List.length_cons, List.length_cons]; omega
          have e2 : i + 2 + m.length = i + (a :: b :: m).length := by simp; omega
          simp only [e1, e2, unhex, List.append_assoc, List.singleton_append]
      · rw [if_neg h', if_neg h']
    · rw [if_neg h, if_neg h]
theorem bad_ok : ∀ (l : List UInt8) (i : Nat), bad i l = none → l.all hexOk = true
  | [], _, _ => rfl
  | a :: m, i, h => by
    rw [bad] at h
    by_cases ha : hexOk a = true
    · rw [if_pos ha] at h; rw [List.all_cons, ha, bad_ok m _ h]; rfl
    · rw [if_neg ha] at h; cases h
/-! ### groatref02_Get -/
@[reducible] def groatref02_Get.sg : List Shp := [.v (.str)]
@[reducible] def groatref02_Get.rs : Rs := .tup [.v (.str), .v (.int .i64), .v (.bool)]
@[reducible] noncomputable def groatref02_Get.code : Code := Try.f105.body.getD .skip
noncomputable def groatref02_Get.C : Ctx := ⟨tab, [groatref02_Worth.c], [], ⟨[(2, [0, 5], 0), (10, [0, 6, 7], 0)], []⟩⟩
noncomputable def groatref02_Get.l0 (n : Nat) (v0 : ByteArray) (v1 : Int) : Option ((ByteArray × (Int × Bool))) := run groatref02_Get.C (finOf groatref02_Get.C Try.f105 groatref02_Get.rs) n (todoAt 2 groatref02_Get.code) ⟨[.str v0, .junk, .junk, .junk, .junk, .int .i64 v1, .junk, .junk, .junk, .junk, .junk, .junk, .junk, .junk, .junk, .junk, .junk, .junk, .junk, .junk, .junk, .junk, .junk, .junk, .junk, .junk, .junk, .junk, .junk, .junk, .junk, .junk, .junk, .junk, .junk, .junk, .junk, .junk, .junk, .junk, .junk, .junk, .junk, .junk, .junk, .junk, .junk, .junk, .junk, .junk], [], []⟩
noncomputable def groatref02_Get.l1 (n : Nat) (v0 : ByteArray) (v1 : List Int) (v2 : Int) : Option ((ByteArray × (Int × Bool))) := run groatref02_Get.C (finOf groatref02_Get.C Try.f105 groatref02_Get.rs) n (todoAt 10 groatref02_Get.code) ⟨[.str v0, .junk, .junk, .junk, .junk, .junk, .sl (some 0) (.int .u8) v1, .int .i64 v2, .junk, .junk, .junk, .junk, .junk, .junk, .junk, .junk, .junk, .junk, .junk, .junk, .junk, .junk, .junk, .junk, .junk, .junk, .junk, .junk, .junk, .junk, .junk, .junk, .junk, .junk, .junk, .junk, .junk, .junk, .junk, .junk, .junk, .junk, .junk, .junk, .junk, .junk, .junk, .junk, .junk, .junk], [], [true]⟩
-- the loop at region 2
theorem groatref02_Get.l0_eq (n : Nat) (v0 : ByteArray) (v1 : Int) : groatref02_Get.l0 (n + 1) v0 v1 =
  (if v1 < (↑(ByteArray.size v0) : Int) then ((bget v0 v1).bind fun b0 =>
   ((groatref02_Worth.f (↑(UInt8.toNat b0) : Int)).bind fun b1 =>
   (if b1 < 0 then (some ((ByteArray.mk #[], v1, false)))
   else (groatref02_Get.l0 n v0 (IntKind.wrap IntKind.i64 (v1 + 1))))))
  else (if Int.tmod (↑(ByteArray.size v0) : Int) 2 = 1 then (some ((ByteArray.mk #[], (↑(ByteArray.size v0) : Int), false)))
   else (groatref02_Get.l1 n v0 [] 0))) := by kernel_rfl
-- the loop at region 10
theorem groatref02_Get.l1_eq (n : Nat) (v0 : ByteArray) (v1 : List Int) (v2 : Int) : groatref02_Get.l1 (n + 1) v0 v1 v2 =
  (if v2 < (↑(ByteArray.size v0) : Int) then ((bget v0 v2).bind fun b2 =>
   ((groatref02_Worth.f (↑(UInt8.toNat b2) : Int)).bind fun b3 =>
   ((bget v0 (IntKind.wrap IntKind.i64 (v2 + 1))).bind fun b4 =>
   ((groatref02_Worth.f (↑(UInt8.toNat b4) : Int)).bind fun b5 =>
   ((lcat 1 v1 [IntKind.wrap IntKind.u8 (IntKind.wrap IntKind.i64 (IntKind.wrap IntKind.i64 (16 * b3) + b5))]).bind fun b6 =>
   (groatref02_Get.l1 n v0 b6 (IntKind.wrap IntKind.i64 (v2 + 2))))))))
  else (some ((bytesOf v1, 0, true)))) := by kernel_rfl
theorem groatref02_Get.eq (n : Nat) (a0 : ByteArray) : call groatref02_Get.C Try.f105 groatref02_Get.code groatref02_Get.sg groatref02_Get.rs n a0 =
  (groatref02_Get.l0 n a0 0) := by kernel_rfl
def groatref02_Get.f (s : ByteArray) : Option (ByteArray × Int × Bool) := if s.size ≤ 140737488351232 then some (sb (hexGet (bl s)).1, (hexGet (bl s)).2.1, (hexGet (bl s)).2.2) else none
theorem groatref02_Get (l : List UInt8) (hl : l.length ≤ 140737488351232) : groatref02_Get.f (sb l) = some (sb (hexGet l).1, (hexGet l).2.1, (hexGet l).2.2) := by
  unfold groatref02_Get.f
  rw [if_pos (by rw [size_sb]; exact hl), bl_sb]
theorem wrap_u8 {n : Nat} (h : n < 256) : IntKind.wrap .u8 (n : Int) = n := by
  show (if (false && decide ((n : Int) % 256 ≥ 128)) = true then (n : Int) % 256 - 256 else (n : Int) % 256) = _
  simp only [Bool.false_and, Bool.false_eq_true, if_false]; omega
theorem groatref02_Get_l1 (l : List UInt8) (hl : l.length ≤ 140737488351232) : ∀ (m o : List UInt8) (k i : Nat), i + m.length = l.length → m.length % 2 = 0 → l.drop i = m → m.all hexOk = true → 2 * o.length ≤ i → m.length + 20 < k →
    groatref02_Get.l1 k (sb l) (ints o) (i : Int) = some (sb (o ++ unhex m), 0, true)
  | [], o, k, i, hi, h2, hd, ha, ho, hk => by
    obtain ⟨k, rfl⟩ : ∃ m, k = m + 1 := ⟨k - 1, by omega⟩
    have hi' : i = l.length := by simpa using hi
    rw [groatref02_Get.l1_eq, if_neg (by rw [size_sb]; omega), str_ints]; simp [unhex]
  | [a], o, k, i, hi, h2, hd, ha, ho, hk => by simp at h2
  | a :: b :: m, o, k, i, hi, h2, hd, hall, ho, hk => by
    obtain ⟨k, rfl⟩ : ∃ m, k = m + 1 := ⟨k - 1, by omega⟩
    have hi' : i + (m.length + 2) = l.length := by simpa using hi
    have hk' : m.length + 20 < k := by simp at hk; omega
    have b0 : (i : Int) < (l.length : Int) := by omega
    have hm2 : m.length % 2 = 0 := by rw [List.length_cons, List.length_cons] at h2; omega
    have hi2 : i + 2 + m.length = l.length := by omega
    obtain ⟨-, -, hd1⟩ := drop_cons hd
    obtain ⟨-, -, hd2⟩ := drop_cons hd1
    simp only [List.all_cons, Bool.and_eq_true] at hall
    have h1 := hexV_lt hall.1
    have h3 := hexV_lt hall.2.1
    have hv : 16 * hexV a + hexV b < 256 := by omega
    have ea : worth a = ((hexV a : Nat) : Int) := if_pos hall.1
    have eb : worth b = ((hexV b : Nat) : Int) := if_pos hall.2.1
    have w : IntKind.wrap .u8 (IntKind.wrap .i64 (IntKind.wrap .i64 (16 * ((hexV a : Nat) : Int)) + ((hexV b : Nat) : Int))) = ((16 * hexV a + hexV b : Nat) : Int) := by
      rw [wrap_id (x := 16 * ((hexV a : Nat) : Int)) (by omega) (by omega), wrap_id (by omega) (by omega), show 16 * ((hexV a : Nat) : Int) + ((hexV b : Nat) : Int) = ((16 * hexV a + hexV b : Nat) : Int) by omega, wrap_u8 hv]
    have w2 : IntKind.wrap .i64 ((i : Int) + 2) = ((i + 2 : Nat) : Int) := by rw [wrap_id (by omega) (by omega)]; omega
    rw [groatref02_Get.l1_eq, if_pos (by rw [size_sb]; exact b0), bget_drop hd, Option.bind_some, groatref02_Worth a, Option.bind_some, wrap_succ (by omega), bget_drop hd1, Option.bind_some, groatref02_Worth b, Option.bind_some, ea, eb, w, lcat_ok _ _ _ (by rw [ints_length]; simp only [List.length_cons, List.length_nil]; omega), Option.bind_some, ints_snoc o _ hv, w2]
    have := groatref02_Get_l1 l hl m (o ++ [u8 (16 * hexV a + hexV b)]) k (i + 2) hi2 hm2 hd2 hall.2.2 (by rw [List.length_append]; simp only [List.length_cons, List.length_nil]; omega) hk'
    rw [this, unhex]
    simp
theorem groatref02_Get_l0 (l : List UInt8) (hl : l.length ≤ 140737488351232) : ∀ (m : List UInt8) (k i : Nat), i + m.length = l.length → l.drop i = m → (∀ j, bad i m = some j → bad 0 l = some j) → (bad i m = none → bad 0 l = none) → m.length + l.length + 21 < k →
    groatref02_Get.l0 k (sb l) (i : Int) = some (sb (hexGet l).1, (hexGet l).2.1, (hexGet l).2.2)
  | [], k, i, hi, hd, hs, hn, hk => by
    obtain ⟨k, rfl⟩ : ∃ m, k = m + 1 := ⟨k - 1, by omega⟩
    have hb := hn rfl
    have e : hexGet l = if l.length % 2 = 1 then ([], ((0 + l.length : Nat) : Int), false) else ([] ++ unhex l, 0, true) := by unfold hexGet; rw [hexFrom_bad, hb]
    have hi' : i = l.length := by simpa using hi
    have t : Int.tmod (l.length : Int) 2 = ((l.length % 2 : Nat) : Int) := tmod_nat l.length 2
    rw [groatref02_Get.l0_eq, if_neg (by rw [size_sb]; omega), size_sb, t]
    by_cases h : l.length % 2 = 1
    · rw [if_pos (by omega), e, if_pos h]; simp [empty_sb]
    · rw [if_neg (by omega), e, if_neg h]
      exact groatref02_Get_l1 l hl l [] k 0 (by simp) (by omega) rfl (bad_ok l 0 hb) (Nat.le_refl _) (by simp at hk; omega)
  | a :: m, k, i, hi, hd, hs, hn, hk => by
    obtain ⟨k, rfl⟩ : ∃ m, k = m + 1 := ⟨k - 1, by omega⟩
    have hi' : i + (m.length + 1) = l.length := by simpa using hi
    have hk' : m.length + l.length + 21 < k := by simp at hk; omega
    have b0 : (i : Int) < (l.length : Int) := by omega
    have hi2 : i + 1 + m.length = l.length := by omega
    obtain ⟨-, -, hd2⟩ := drop_cons hd
    rw [groatref02_Get.l0_eq, if_pos (by rw [size_sb]; exact b0), bget_drop hd, Option.bind_some, groatref02_Worth a, Option.bind_some]
    by_cases h : hexOk a = true
    · rw [if_neg (by rw [worth_neg]; simp [h]), wrap_succ (by omega)]
      exact groatref02_Get_l0 l hl m k (i + 1) hi2 hd2 (fun j hj => hs j (by rw [bad, if_pos h]; exact hj)) (fun hj => hn (by rw [bad, if_pos h]; exact hj)) hk'
    · rw [if_pos (worth_neg.2 h)]
      have hb := hs i (by rw [bad, if_neg h])
      have e : hexGet l = ([], (i : Int), false) := by unfold hexGet; rw [hexFrom_bad, hb]
      rw [e]; rfl
noncomputable def groatref02_Get.c : Con := ⟨105, groatref02_Get.sg, groatref02_Get.rs, groatref02_Get.f⟩
theorem groatref02_Get.con : ConOk Try.prog groatref02_Get.c := walked (C := groatref02_Get.C) rfl (by kernel_rfl) (by kernel_rfl) (by kernel_rfl) rfl ⟨groatref02_Worth.con, trivial⟩ fun s y h => by
  obtain ⟨l, rfl⟩ := ex_sb s
  have h : groatref02_Get.f (sb l) = some y := h
  unfold groatref02_Get.f at h
  split at h
  · rename_i hc
    rw [size_sb] at hc
    exact ⟨2 * l.length + 22, by rw [groatref02_Get.eq]; exact (groatref02_Get_l0 l hc l _ 0 (by simp) rfl (fun _ h => h) (fun h => h) (by omega)).trans h⟩
  · cases h
end Go.Proofs.Ytjbhknfdfnilbaa.Xe
