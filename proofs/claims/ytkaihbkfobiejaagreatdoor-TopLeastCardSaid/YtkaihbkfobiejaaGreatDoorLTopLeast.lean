/- The law TopLeast: the fault that decoding tells is the least. -/
import Derived.Test.YtkaihbkfobiejaaGreatDoorElv
import Derived.Test.YtkaihbkfobiejaaGreatDoorNLeast
import Derived.Test.YtkaihbkfobiejaaGreatDoorLdM
import Derived.Test.YtkaihbkfobiejaaGreatDoorXop
namespace Go.Proofs.YtkaihbkfobiejaaGreatDoor.Xe
open Go Go.RowKit Go.Proofs.YtkaihbkfobiejaaGreatDoor.Sp
set_option linter.unusedVariables false
set_option linter.unusedSimpArgs false
set_option maxRecDepth 100000
/-! ### groattop_TopLeast -/
@[reducible] def groattop_TopLeast.sg : List Shp := [.a (.pair (.int .i64) (.pair (.int .i64) (.sl (.pair (.int .i64) (.pair (.int .i64) (.pair (.int .i64) (.pair (.int .i64) (.int .i64)))))))), .v (.str)]
@[reducible] def groattop_TopLeast.rs : Rs := .one (.v (.bool))
@[reducible] noncomputable def groattop_TopLeast.code : Code := Tryz.f4.body.getD .skip
noncomputable def groattop_TopLeast.C : Ctx := ⟨tab, [groattop_live.c, groattop_few.c, wire_Encode.c, strict_Decode.c, wire_Type.c, bitmap_Get.c, fields_Set_Next.c], [], ⟨[(18, [6, 11, 17, 163, 164, 165], 6)], [(1, [(32, .bool)]), (4, [(47, .bool)]), (8, [(79, .bool)]), (13, [(4, .bool)]), (14, [(161, .bool)]), (23, [(4, .bool)])]⟩⟩
noncomputable def groattop_TopLeast.l0 (n : Nat) (v0 : Int) (v1 : List ((Int × ByteArray))) (v2 : Int) (v3 : Int) (v4 : Int) (v5 : Int) (v6 : List ((Int × (Int × (Int × (Int × Int)))))) (v7 : ByteArray) (v8 : List ((Int × ByteArray))) (v9 : Int) (v10 : Int) (v11 : Int) (v12 : Int) (v13 : Int) (v14 : Int) (v15 : Int) (v16 : Int) : Option Bool := run groattop_TopLeast.C (finOf groattop_TopLeast.C Tryz.f4 groattop_TopLeast.rs) n (todoAt 18 groattop_TopLeast.code) ⟨[.junk, .junk, .junk, .junk, .junk, .junk, .ptr 2 0, .junk, .junk, .junk, .junk, .ptr 4 0, .junk, .junk, .junk, .junk, .junk, .int .i64 v0, .junk, .junk, .junk, .junk, .junk, .junk, .junk, .junk, .junk, .junk, .junk, .junk, .junk, .junk, .junk, .junk, .junk, .junk, .junk, .junk, .junk, .junk, .junk, .junk, .junk, .junk, .junk, .junk, .junk, .junk, .junk, .junk, .junk, .junk, .junk, .junk, .junk, .junk, .junk, .junk, .junk, .junk, .junk, .junk, .junk, .junk, .junk, .junk, .junk, .junk, .junk, .junk, .junk, .junk, .junk, .junk, .junk, .junk, .junk, .junk, .junk, .junk, .junk, .junk, .junk, .junk, .junk, .junk, .junk, .junk, .junk, .junk, .junk, .junk, .junk, .junk, .junk, .junk, .junk, .junk, .junk, .junk, .junk, .junk, .junk, .junk, .junk, .junk, .junk, .junk, .junk, .junk, .junk, .junk, .junk, .junk, .junk, .junk, .junk, .junk, .junk, .junk, .junk, .junk, .junk, .junk, .junk, .junk, .junk, .junk, .junk, .junk, .junk, .junk, .junk, .junk, .junk, .junk, .junk, .junk, .junk, .junk, .junk, .junk, .junk, .junk, .junk, .junk, .junk, .junk, .junk, .junk, .junk, .junk, .junk, .junk, .junk, .junk, .junk, .junk, .junk, .junk, .junk, .junk, .junk, .sl none (.pair (.int .i64) (.str)) v1, .int .i64 v2, .int .i64 v3, .junk, .junk, .junk, .junk, .junk, .junk, .junk, .junk, .junk, .junk, .junk, .junk, .junk, .junk, .junk, .junk, .junk, .junk, .junk, .junk, .junk, .junk, .junk, .junk, .junk, .junk, .junk], [[.int .i64 v4, .int .i64 v5, .sl none (.pair (.int .i64) (.pair (.int .i64) (.pair (.int .i64) (.pair (.int .i64) (.int .i64))))) v6], [.str v7, .sl none (.pair (.int .i64) (.str)) v8], [.int .i64 v9, .int .i64 v10], [.int .i64 v11, .int .i64 v12], [.int .u64 v13, .int .u64 v14], [.int .u64 v15, .int .u64 v16]], []⟩
-- the loop at region 18
theorem groattop_TopLeast.l0_eq (n : Nat) (v0 : Int) (v1 : List ((Int × ByteArray))) (v2 : Int) (v3 : Int) (v4 : Int) (v5 : Int) (v6 : List ((Int × (Int × (Int × (Int × Int)))))) (v7 : ByteArray) (v8 : List ((Int × ByteArray))) (v9 : Int) (v10 : Int) (v11 : Int) (v12 : Int) (v13 : Int) (v14 : Int) (v15 : Int) (v16 : Int) : groattop_TopLeast.l0 (n + 1) v0 v1 v2 v3 v4 v5 v6 v7 v8 v9 v10 v11 v12 v13 v14 v15 v16 =
  (if v3 < v2 then ((lget v1 v3).bind fun b16 =>
   (groattop_TopLeast.l0 n (Prod.fst b16) v1 v2 (IntKind.wrap IntKind.i64 (v3 + 1)) v4 v5 v6 v7 v8 v9 v10 v11 v12 v13 v14 v15 v16))
  else ((fields_Set_Next.f ((v13, v14), v0)).bind fun b17 =>
   ((((if v10 = b17 then (if ¬v9 = 12 then (some true)
     else (if b17 = 0 then (some (decide (v9 = 12 ∧ v10 = 129 ∧ True)))
      else (some false)))
    else (if b17 = 0 then (some (decide (v9 = 12 ∧ v10 = 129 ∧ True)))
     else (some false))) : Option Bool)).bind fun b18 =>
   (some (decide (b18 = true)))))) := by kernel_rfl
theorem groattop_TopLeast.eq (n : Nat) (a0 : Int) (a1 : Int) (a2 : List ((Int × (Int × (Int × (Int × Int)))))) (a3 : ByteArray) : call groattop_TopLeast.C Tryz.f4 groattop_TopLeast.code groattop_TopLeast.sg groattop_TopLeast.rs n ((a0, (a1, a2)), a3) =
  (((((groattop_live.f ()).bind fun b0 =>
   (if ¬b0 = true then (some true)
   else ((groattop_few.f (a0, a1, a2)).bind fun b1 =>
    (if ¬b1 = true then (some true)
    else (some (decide ((↑(ByteArray.size a3) : Int) > 3000))))))) : Option Bool)).bind fun b2 =>
  (if b2 = true then ((groattop_live.f ()).bind fun b3 =>
   (some (decide (b3 = true))))
  else ((strict_Decode.f ((a0, a1, a2), a3)).bind fun b4 =>
   ((((if Prod.fst (Prod.snd b4) = 0 then (some true)
    else (some (decide (Prod.fst (Prod.fst b4) = ByteArray.mk #[])))) : Option Bool)).bind fun b5 =>
   (if b5 = true then (some true)
   else ((wire_Encode.f ((a0, a1, a2), Prod.fst b4)).bind fun b6 =>
    ((wire_Type.f (a0, Prod.fst (Prod.fst b4))).bind fun b7 =>
    ((((if ¬(Prod.fst (Prod.snd b6) = 0 ∧ Prod.snd (Prod.snd b6) = 0 ∧ True) then (some true)
     else (if (↑(ByteArray.size a3) : Int) < (↑(ByteArray.size (Prod.fst b7)) : Int) then (some true)
      else ((ssub a3 0 (↑(ByteArray.size (Prod.fst b7)) : Int)).bind fun b8 =>
       (some (decide ¬b8 = Prod.fst b7))))) : Option Bool)).bind fun b9 =>
    (if b9 = true then (some false)
    else ((bitmap_Get.f (a0, a3, (↑(ByteArray.size (Prod.fst b7)) : Int))).bind fun b10 =>
     ((bitmap_Get.f (a0, Prod.fst b6, (↑(ByteArray.size (Prod.fst b7)) : Int))).bind fun b11 =>
     (if Prod.snd (Prod.snd b4) ≤ 1 then ((((if Prod.snd (Prod.snd b4) = 1 then (if Prod.snd (Prod.snd b10) = Prod.fst (Prod.snd b4) then (some (decide ((↑(List.length (Prod.snd (Prod.fst b4))) : Int) = 0)))
        else (some false))
       else (some false)) : Option Bool)).bind fun b12 =>
      (some (decide (b12 = true))))
     else ((((if ¬Prod.snd (Prod.snd b10) = 0 then (some true)
       else (if ¬Prod.snd (Prod.snd b11) = 0 then (some true)
        else (if Prod.fst (Prod.snd b11) > (↑(ByteArray.size (Prod.fst b6)) : Int) then (some true)
         else (if Prod.fst (Prod.snd b10) > (↑(ByteArray.size a3) : Int) then (some true)
          else (if IntKind.wrap IntKind.i64 ((↑(ByteArray.size a3) : Int) - Prod.fst (Prod.snd b10)) < IntKind.wrap IntKind.i64 ((↑(ByteArray.size (Prod.fst b6)) : Int) - Prod.fst (Prod.snd b11)) then (some true)
           else ((ssub a3 (Prod.fst (Prod.snd b10)) (IntKind.wrap IntKind.i64 (IntKind.wrap IntKind.i64 (Prod.fst (Prod.snd b10) + (↑(ByteArray.size (Prod.fst b6)) : Int)) - Prod.fst (Prod.snd b11)))).bind fun b13 =>
            ((ssub (Prod.fst b6) (Prod.fst (Prod.snd b11)) (↑(ByteArray.size (Prod.fst b6)) : Int)).bind fun b14 =>
            (some (decide ¬b13 = b14))))))))) : Option Bool)).bind fun b15 =>
      (if b15 = true then (some false)
      else (groattop_TopLeast.l0 n 0 (Prod.snd (Prod.fst b4)) ((↑(List.length (Prod.snd (Prod.fst b4))) : Int)) 0 a0 a1 a2 (Prod.fst (Prod.fst b4)) (Prod.snd (Prod.fst b4)) (Prod.fst (Prod.snd b4)) (Prod.snd (Prod.snd b4)) (Prod.fst (Prod.snd b6)) (Prod.snd (Prod.snd b6)) (Prod.fst (Prod.fst b10)) (Prod.snd (Prod.fst b10)) (Prod.fst (Prod.fst b11)) (Prod.snd (Prod.fst b11))))))))))))))))) := by kernel_rfl
theorem groattop_TopLeast.ok : CtxOk Tryz.prog groattop_TopLeast.C := ⟨AllOk.all (show AllOk groattop_TopLeast.C.G from ⟨groattop_live.con, groattop_few.con, wire_Encode.con, strict_Decode.con, wire_Type.con, bitmap_Get.con, fields_Set_Next.con, trivial⟩), fun c hc => absurd (show c ∈ ([] : List ConS) from hc) (by simp)⟩
theorem groattop_TopLeast_l (a b : Int) (s : List S5) (t : ByteArray) (l : List V) (hl : l.length ≤ 1000) (e f q1 q2 : Int) (h g : Nat) (h2 g2 : Int) (kk : Nat) (hk2 : kk ≤ 128) : ∀ (m : List V) (n : Int) (k i : Nat), l.drop i = m → lastV n m = (kk : Int) → m.length < k →
    groattop_TopLeast.l0 k n l (l.length : Int) (i : Int) a b s t l e f q1 q2 (h : Int) (g : Int) h2 g2 = some (decide ((f = nextS h g kk ∧ e ≠ 12) ∨ (nextS h g kk = 0 ∧ e = 12 ∧ f = 129)))
  | [], n, k, i, hd, hn, hk => by
    obtain ⟨k, rfl⟩ : ∃ m, k = m + 1 := ⟨k - 1, by omega⟩
    have := dropn hd
    rw [lastV] at hn
    rw [groattop_TopLeast.l0_eq, if_neg (by omega), hn, fields_Set_Next h g kk hk2, Option.bind_some]
    by_cases c1 : f = nextS h g kk
    · rw [if_pos c1]
      by_cases c2 : e = 12
      · rw [if_neg (not_not_intro c2)]
        by_cases c3 : nextS h g kk = 0
        · rw [if_pos c3, Option.bind_some]
          simp only [decide_eq_true_eq, and_true, Option.some.injEq]
          exact decide_eq_decide.2 ⟨fun ⟨x, y⟩ => .inr ⟨c3, x, y⟩, fun x => x.elim (fun x => absurd c2 x.2) fun x => x.2⟩
        · rw [if_neg c3, Option.bind_some]
          simp only [Bool.false_eq_true, decide_false, Option.some.injEq]
          exact (decide_eq_false fun x => x.elim (fun x => x.2 c2) fun x => c3 x.1).symm
      · rw [if_pos c2, Option.bind_some]
        exact congrArg some (decide_eq_true (Or.inl ⟨c1, c2⟩)).symm
    · rw [if_neg c1]
      by_cases c3 : nextS h g kk = 0
      · rw [if_pos c3, Option.bind_some]
        simp only [decide_eq_true_eq, and_true, Option.some.injEq]
        exact decide_eq_decide.2 ⟨fun ⟨x, y⟩ => .inr ⟨c3, x, y⟩, fun x => x.elim (fun x => absurd x.1 c1) fun x => x.2⟩
      · rw [if_neg c3, Option.bind_some]
        simp only [Bool.false_eq_true, decide_false, Option.some.injEq]
        exact (decide_eq_false fun x => x.elim (fun x => c1 x.1) fun x => c3 x.1).symm
  | v :: m, n, k, i, hd, hn, hk => by
    obtain ⟨k, rfl⟩ : ∃ m, k = m + 1 := ⟨k - 1, by omega⟩
    obtain ⟨h1, h2', h3, h4⟩ := dropc hd
    have hk' : m.length < k := by simp at hk; omega
    rw [groattop_TopLeast.l0_eq, if_pos (by omega), h4, Option.bind_some, wrap_succ (by omega)]
    exact groattop_TopLeast_l a b s t l hl e f q1 q2 h g h2 g2 kk hk2 m v.1 k (i + 1) h2' hn hk'
theorem groattop_TopLeast.holds (x : (Int × Int × List S5) × ByteArray) (w : Wf (sgTy groattop_TopLeast.sg) x) : ∃ n, call groattop_TopLeast.C Tryz.f4 groattop_TopLeast.code groattop_TopLeast.sg groattop_TopLeast.rs n x = some true := by
  obtain ⟨⟨a, b, s⟩, z⟩ := x
  obtain ⟨z, rfl⟩ := ex_sb z
  refine ⟨300, ?_⟩
  rw [groattop_TopLeast.eq]
  have dead : ((groattop_live.f ()).bind fun b3 => some (decide (b3 = true))) = some true := rfl
  simp only [dead]
  rw [show groattop_live.f () = some true from rfl, Option.bind_some, if_neg (by simp), show groattop_few.f (a, b, s) = some (decide ((s.length : Int) ≤ 200)) from rfl, Option.bind_some, size_sb]
  by_cases c : ¬ (s.length : Int) ≤ 200
  · rw [if_pos (by simpa using c), Option.bind_some, if_pos rfl]
  rw [if_neg (by simpa using c), Option.bind_some]
  by_cases c2 : (z.length : Int) > 3000
  · rw [if_pos (decide_eq_true c2)]
  rw [if_neg (by simpa using c2)]
  have hs : s.length ≤ 1000000 := by omega
  have hl := decM_okM (a, b, s) z (by omega)
  have hn : (decM (a, b, s) z).1.2.length ≤ 128 := decM_len (a, b, s) z
  rw [strict_Decode a b s hs z (by omega), Option.bind_some]
  dsimp only
  by_cases h : (decM (a, b, s) z).2.1 = 0
  · rw [if_pos h, Option.bind_some, if_pos rfl]
  rw [if_neg h, Option.bind_some]
  by_cases hne : (decM (a, b, s) z).1.1 = []
  · rw [if_pos (decide_eq_true (by rw [hne]; rfl))]
  rw [if_neg (by rw [decide_eq_true_eq]; exact fun e => hne (sb_inj (b := []) e))]
  obtain ⟨hv, hst, h4, h5, h6, h7⟩ := top_least hne h
  dsimp only at hst h4 h5 h6 h7
  have htn : typeN a ≤ 4 := by unfold typeN; split <;> omega
  have hsub : ssub (sb z) 0 ((typeN a : Nat) : Int) = some (sb (typeB a (decM (a, b, s) z).1.1)) := by
    have := ssub_sb z 0 (typeN a) (by omega) h4
    rw [List.drop_zero, h5] at this
    exact this
  rw [wire_Encode a b s hs _ _ hl, Option.bind_some, wireE_zero hv, wire_Type, Option.bind_some]
  dsimp only
  rw [size_sb, h6, if_neg (fun q => q ⟨rfl, rfl, trivial⟩), if_neg (by omega), hsub, Option.bind_some, Option.bind_some, if_neg (by simp)]
  rw [bitmap_Get a z (by omega), Option.bind_some]
  have hw : (wireB a s (decM (a, b, s) z).1.1 (decM (a, b, s) z).1.2).length ≤ 1000000 := wireB_length a s _ _ (by omega)
  rw [bitmap_Get a _ (by omega), Option.bind_some]
  obtain ⟨-, hr⟩ := (msgE_zero _ _ _).1.1 hv
  have hb := bitGet_put hst (setV_low hr) (setV_lt (decM (a, b, s) z).1.2).2 (typeB a (decM (a, b, s) z).1.1) (fieldsB a s (decM (a, b, s) z).1.2)
  rw [← bitsB_eq a hst hr, h6] at hb
  have hwb : wireB a s (decM (a, b, s) z).1.1 (decM (a, b, s) z).1.2 = typeB a (decM (a, b, s) z).1.1 ++ (bitsB a (decM (a, b, s) z).1.2 ++ fieldsB a s (decM (a, b, s) z).1.2) := by unfold wireB; rw [List.append_assoc]
  rw [hwb, hb]
  dsimp only
  rcases h7 with ⟨e1, e2, e3⟩ | ⟨e1, e2, e3, ⟨r, e4⟩, kk, e5, e6, e7⟩
  · rw [if_pos (by omega), if_pos e2, if_pos e3, e1]
    rfl
  · have hz := congrArg List.length e4
    rw [List.length_drop, List.length_append] at hz
    have hfl := fieldsB_length a s (decM (a, b, s) z).1.2
    have hbl := bitsB_length a (decM (a, b, s) z).1.2
    rw [size_sb, List.length_append, List.length_append, h6]
    generalize hF : fieldsB a s (decM (a, b, s) z).1.2 = F at *
    generalize hB : bitsB a (decM (a, b, s) z).1.2 = B at *
    generalize hA : (bitGet a z (typeN a : Int)).2.1 = A at *
    rw [if_neg (by omega), if_neg (not_not_intro e2), if_neg (not_not_intro rfl)]
    have n1 : ¬ ((typeN a + B.length : Nat) : Int) > ((typeN a + (B.length + F.length) : Nat) : Int) := by omega
    have n2 : ¬ (A : Int) > (z.length : Int) := by omega
    have n3 : ¬ ((z.length - A : Nat) : Int) < ((F.length : Nat) : Int) := by omega
    have n4 : (decM (a, b, s) z).1.2.length ≤ 1000 := by omega
    rw [if_neg n1, if_neg n2]
    have w1 : IntKind.wrap .i64 ((z.length : Int) - (A : Int)) = ((z.length - A : Nat) : Int) := by rw [wrap_id (by omega) (by omega)]; omega
    have w2 : IntKind.wrap .i64 (((typeN a + (B.length + F.length) : Nat) : Int) - ((typeN a + B.length : Nat) : Int)) = ((F.length : Nat) : Int) := by rw [wrap_id (by omega) (by omega)]; omega
    have w3 : IntKind.wrap .i64 (IntKind.wrap .i64 ((A : Int) + ((typeN a + (B.length + F.length) : Nat) : Int)) - ((typeN a + B.length : Nat) : Int)) = ((A + F.length : Nat) : Int) := by
      rw [wrap_id (x := (A : Int) + _) (by omega) (by omega), wrap_id (by omega) (by omega)]; omega
    have s1 : ssub (sb z) (A : Int) ((A + F.length : Nat) : Int) = some (sb F) := by
      rw [ssub_sb z A (A + F.length) (by omega) (by omega)]
      have : (z.take (A + F.length)).drop A = F := by
        rw [List.drop_take, show A + F.length - A = F.length by omega, e4, List.take_left' rfl]
      rw [this]
    have s2 : ssub (sb (typeB a (decM (a, b, s) z).1.1 ++ (B ++ F))) ((typeN a + B.length : Nat) : Int) ((typeN a + (B.length + F.length) : Nat) : Int) = some (sb F) := by
      rw [ssub_sb _ _ _ (by omega) (by rw [List.length_append, List.length_append, h6]; omega)]
      have : ((typeB a (decM (a, b, s) z).1.1 ++ (B ++ F)).take (typeN a + (B.length + F.length))).drop (typeN a + B.length) = F := by
        rw [List.take_of_length_le (by rw [List.length_append, List.length_append, h6]; omega), ← List.append_assoc, List.drop_left' (by rw [List.length_append, h6])]
      rw [this]
    rw [w1, w2, if_neg n3, w3, s1, Option.bind_some, s2, Option.bind_some]
    simp only [not_true_eq_false, decide_false, Option.bind_some, Bool.false_eq_true, if_false]
    refine (groattop_TopLeast_l a b s _ _ n4 _ _ _ _ _ _ _ _ kk e6 (decM (a, b, s) z).1.2 0 300 0 rfl e5 (by omega)).trans ?_
    congr 1
    refine decide_eq_true ?_
    rcases e7 with ⟨q1, q2⟩ | ⟨q1, q2⟩
    · exact .inr ⟨q2, by rw [q1], by rw [q1]⟩
    · exact .inl ⟨q2.symm, q1⟩
end Go.Proofs.YtkaihbkfobiejaaGreatDoor.Xe
