/- What the program's refusals answer. -/
import Derived.Test.YtkhmdcllookjkaaErc
import Derived.Test.YtkhmdcllookjkaaEmw
namespace Go.Proofs.Ytkhmdcllookjkaa.Xe
open Go Go.RowKit Go.Proofs.Ytkhmdcllookjkaa.Sp
set_option linter.unusedVariables false
set_option linter.unusedSimpArgs false
set_option maxRecDepth 100000
/-! ### mti_Request -/
@[reducible] def mti_Request.sg : List Shp := [.v (.str)]
@[reducible] def mti_Request.rs : Rs := .one (.v (.bool))
@[reducible] noncomputable def mti_Request.code : Code := Try.f42.body.getD .skip
noncomputable def mti_Request.C : Ctx := ⟨tab, [mti_Right.c], [], ⟨[], []⟩⟩
theorem mti_Request.eq (n : Nat) (a0 : ByteArray) : call mti_Request.C Try.f42 mti_Request.code mti_Request.sg mti_Request.rs n a0 =
  ((mti_Right.f a0).bind fun b0 =>
  (if b0 = true then ((bget a0 2).bind fun b1 =>
   (if (↑(UInt8.toNat b1) : Int) = 48 then (some true)
   else ((bget a0 2).bind fun b2 =>
    (some (decide ((↑(UInt8.toNat b2) : Int) = 50))))))
  else (some false))) := by kernel_rfl
noncomputable def mti_Request.f : El (sgTy mti_Request.sg) → Option (El mti_Request.rs.ty) := fun x => match x with
  | a0 =>
  ((mti_Right.f a0).bind fun b0 =>
  (if b0 = true then ((bget a0 2).bind fun b1 =>
   (if (↑(UInt8.toNat b1) : Int) = 48 then (some true)
   else ((bget a0 2).bind fun b2 =>
    (some (decide ((↑(UInt8.toNat b2) : Int) = 50))))))
  else (some false)))
noncomputable def mti_Request.c : Con := ⟨42, mti_Request.sg, mti_Request.rs, mti_Request.f⟩
theorem mti_Request.con : ConOk Try.prog mti_Request.c := walked (C := mti_Request.C) rfl (by kernel_rfl) (by kernel_rfl) (by kernel_rfl) rfl ⟨mti_Right.con, trivial⟩ fun a0 y h => ⟨0, (mti_Request.eq 0 a0).trans h⟩
theorem mti_Request (t : List UInt8) : mti_Request.f (sb t) = some (asks t) := by
  simp only [mti_Request.f]
  rw [mti_Right, Option.bind_some]
  by_cases h : right t = true
  · obtain ⟨a, b, c, d, rfl, -⟩ := four h
    have g : bget (sb [a, b, c, d]) 2 = some c := rfl
    rw [if_pos h, g, Option.bind_some, Option.bind_some]
    unfold asks
    rw [h, Bool.true_and]
    show (if (c.toNat : Int) = 48 then some true else some (decide ((c.toNat : Int) = 50))) = some (decide (c.toNat = 48) || decide (c.toNat = 50))
    by_cases h1 : c.toNat = 48
    · rw [if_pos (by omega), decide_eq_true h1]; rfl
    · rw [if_neg (by omega), decide_eq_false h1, Bool.false_or]
      congr 1
      exact decide_eq_decide.2 (by omega)
  · rw [if_neg h]
    unfold asks
    rw [Bool.eq_false_iff.2 h]; rfl
/-! ### mti_Response -/
@[reducible] def mti_Response.sg : List Shp := [.v (.str)]
@[reducible] def mti_Response.rs : Rs := .tup [.v (.str), .v (.bool)]
@[reducible] noncomputable def mti_Response.code : Code := Try.f60.body.getD .skip
noncomputable def mti_Response.C : Ctx := ⟨tab, [mti_Request.c], [], ⟨[], []⟩⟩
theorem mti_Response.eq (n : Nat) (a0 : ByteArray) : call mti_Response.C Try.f60 mti_Response.code mti_Response.sg mti_Response.rs n a0 =
  ((mti_Request.f a0).bind fun b0 =>
  (if ¬b0 = true then (some ((ByteArray.mk #[], false)))
  else ((ssub a0 0 2).bind fun b1 =>
   ((bget a0 2).bind fun b2 =>
   ((scat b1 (bytesOf [IntKind.wrap IntKind.u8 ((↑(UInt8.toNat b2) : Int) + 1)])).bind fun b3 =>
   ((ssub a0 3 (↑(ByteArray.size a0) : Int)).bind fun b4 =>
   ((scat b3 b4).bind fun b5 =>
   (some ((b5, true)))))))))) := by kernel_rfl
noncomputable def mti_Response.f : El (sgTy mti_Response.sg) → Option (El mti_Response.rs.ty) := fun x => match x with
  | a0 =>
  ((mti_Request.f a0).bind fun b0 =>
  (if ¬b0 = true then (some ((ByteArray.mk #[], false)))
  else ((ssub a0 0 2).bind fun b1 =>
   ((bget a0 2).bind fun b2 =>
   ((scat b1 (bytesOf [IntKind.wrap IntKind.u8 ((↑(UInt8.toNat b2) : Int) + 1)])).bind fun b3 =>
   ((ssub a0 3 (↑(ByteArray.size a0) : Int)).bind fun b4 =>
   ((scat b3 b4).bind fun b5 =>
   (some ((b5, true))))))))))
noncomputable def mti_Response.c : Con := ⟨60, mti_Response.sg, mti_Response.rs, mti_Response.f⟩
theorem mti_Response.con : ConOk Try.prog mti_Response.c := walked (C := mti_Response.C) rfl (by kernel_rfl) (by kernel_rfl) (by kernel_rfl) rfl ⟨mti_Request.con, trivial⟩ fun a0 y h => ⟨0, (mti_Response.eq 0 a0).trans h⟩
theorem mti_Response (t : List UInt8) : mti_Response.f (sb t) = some (if asks t = true then (sb (answer t), true) else (sb [], false)) := by
  simp only [mti_Response.f]
  rw [mti_Request, Option.bind_some]
  by_cases h : asks t = true
  · obtain ⟨a, b, c, d, rfl, -, -, -, -, hc⟩ := asks_four h
    have g : bget (sb [a, b, c, d]) 2 = some c := rfl
    have w : IntKind.wrap .u8 ((c.toNat : Int) + 1) = ((c.toNat + 1 : Nat) : Int) := by
      show (if (false && decide (((c.toNat : Int) + 1) % 256 ≥ 128)) = true then ((c.toNat : Int) + 1) % 256 - 256 else ((c.toNat : Int) + 1) % 256) = _
      simp only [Bool.false_and, Bool.false_eq_true, if_false]; omega
    have s1 : ssub (sb [a, b, c, d]) 0 2 = some (sb [a, b]) := rfl
    have s2 : ssub (sb [a, b, c, d]) 3 ((sb [a, b, c, d]).size : Int) = some (sb [d]) := rfl
    rw [if_neg (not_not_intro h), s1, Option.bind_some, g, Option.bind_some, w, strOne, scat_sb _ _ (by simp), Option.bind_some, s2, Option.bind_some, scat_sb _ _ (by simp), Option.bind_some, if_pos h]
    rfl
  · rw [if_pos h, if_neg h]; rfl
/-! ### reject_Build -/
@[reducible] def reject_Build.sg : List Shp := [.a (.pair (.pair (.int .i64) (.pair (.int .i64) (.sl (.pair (.int .i64) (.pair (.int .i64) (.pair (.int .i64) (.pair (.int .i64) (.int .i64)))))))) (.pair (.pair (.sl (.pair (.str) (.str))) (.sl (.pair (.int .i64) (.pair (.int .i64) (.pair (.int .i64) (.pair (.str) (.sl (.pair (.str) (.str))))))))) (.pair (.sl (.int .i64)) (.sl (.pair (.int .i64) (.str)))))), .a (.pair (.str) (.sl (.pair (.int .i64) (.str)))), .a (.pair (.int .i64) (.int .i64))]
@[reducible] def reject_Build.rs : Rs := .tup [.a (.pair (.str) (.sl (.pair (.int .i64) (.str)))), .v (.bool)]
@[reducible] noncomputable def reject_Build.code : Code := Try.f38.body.getD .skip
noncomputable def reject_Build.C : Ctx := ⟨tab, [msg_With.c, mti_Response.c, msg_Get.c, reject_Code.c], [], ⟨[(6, [3, 4, 5, 6, 10, 27, 28, 29], 5)], []⟩⟩
noncomputable def reject_Build.l0 (n : Nat) (v0 : List Int) (v1 : Int) (v2 : Int) (v3 : Int) (v4 : Int) (v5 : List ((Int × (Int × (Int × (Int × Int)))))) (v6 : List ((ByteArray × ByteArray))) (v7 : List ((Int × (Int × (Int × (ByteArray × List ((ByteArray × ByteArray)))))))) (v8 : List Int) (v9 : List ((Int × ByteArray))) (v10 : ByteArray) (v11 : List ((Int × ByteArray))) (v12 : Int) (v13 : Int) (v14 : ByteArray) (v15 : ByteArray) : Option (((ByteArray × List ((Int × ByteArray))) × Bool)) := run reject_Build.C (finOf reject_Build.C Try.f38 reject_Build.rs) n (todoAt 6 reject_Build.code) ⟨[.junk, .junk, .junk, .ptr 0 0, .ptr 1 0, .ptr 2 0, .ptr 3 0, .junk, .junk, .junk, .ptr 4 0, .junk, .junk, .junk, .junk, .junk, .junk, .junk, .junk, .junk, .junk, .junk, .junk, .junk, .junk, .junk, .junk, .sl none (.int .i64) v0, .int .i64 v1, .int .i64 v2, .junk, .junk, .junk, .junk, .junk, .junk, .junk, .junk, .junk, .junk, .junk, .junk, .junk, .junk, .junk, .junk, .junk, .junk, .junk, .junk, .junk], [[.int .i64 v3, .int .i64 v4, .sl none (.pair (.int .i64) (.pair (.int .i64) (.pair (.int .i64) (.pair (.int .i64) (.int .i64))))) v5, .sl none (.pair (.str) (.str)) v6, .sl none (.pair (.int .i64) (.pair (.int .i64) (.pair (.int .i64) (.pair (.str) (.sl (.pair (.str) (.str))))))) v7, .sl none (.int .i64) v8, .sl none (.pair (.int .i64) (.str)) v9], [.str v10, .sl none (.pair (.int .i64) (.str)) v11], [.int .i64 v12, .int .i64 v13], [.str v14, .nilsl], [.str v15, .nilsl]], []⟩
noncomputable def reject_Build.l1 (n : Nat) (v0 : List Int) (v1 : Int) (v2 : Int) (v3 : Int) (v4 : Int) (v5 : List ((Int × (Int × (Int × (Int × Int)))))) (v6 : List ((ByteArray × ByteArray))) (v7 : List ((Int × (Int × (Int × (ByteArray × List ((ByteArray × ByteArray)))))))) (v8 : List Int) (v9 : List ((Int × ByteArray))) (v10 : ByteArray) (v11 : List ((Int × ByteArray))) (v12 : Int) (v13 : Int) (v14 : ByteArray) (v15 : ByteArray) (v16 : List ((Int × ByteArray))) : Option (((ByteArray × List ((Int × ByteArray))) × Bool)) := run reject_Build.C (finOf reject_Build.C Try.f38 reject_Build.rs) n (todoAt 6 reject_Build.code) ⟨[.junk, .junk, .junk, .ptr 0 0, .ptr 1 0, .ptr 2 0, .ptr 3 0, .junk, .junk, .junk, .ptr 4 0, .junk, .junk, .junk, .junk, .junk, .junk, .junk, .junk, .junk, .junk, .junk, .junk, .junk, .junk, .junk, .junk, .sl none (.int .i64) v0, .int .i64 v1, .int .i64 v2, .junk, .junk, .junk, .junk, .junk, .junk, .junk, .junk, .junk, .junk, .junk, .junk, .junk, .junk, .junk, .junk, .junk, .junk, .junk, .junk, .junk], [[.int .i64 v3, .int .i64 v4, .sl none (.pair (.int .i64) (.pair (.int .i64) (.pair (.int .i64) (.pair (.int .i64) (.int .i64))))) v5, .sl none (.pair (.str) (.str)) v6, .sl none (.pair (.int .i64) (.pair (.int .i64) (.pair (.int .i64) (.pair (.str) (.sl (.pair (.str) (.str))))))) v7, .sl none (.int .i64) v8, .sl none (.pair (.int .i64) (.str)) v9], [.str v10, .sl none (.pair (.int .i64) (.str)) v11], [.int .i64 v12, .int .i64 v13], [.str v14, .nilsl], [.str v15, .sl none (.pair (.int .i64) (.str)) v16]], []⟩
-- the loop at region 6
theorem reject_Build.l0_eq (n : Nat) (v0 : List Int) (v1 : Int) (v2 : Int) (v3 : Int) (v4 : Int) (v5 : List ((Int × (Int × (Int × (Int × Int)))))) (v6 : List ((ByteArray × ByteArray))) (v7 : List ((Int × (Int × (Int × (ByteArray × List ((ByteArray × ByteArray)))))))) (v8 : List Int) (v9 : List ((Int × ByteArray))) (v10 : ByteArray) (v11 : List ((Int × ByteArray))) (v12 : Int) (v13 : Int) (v14 : ByteArray) (v15 : ByteArray) : reject_Build.l0 (n + 1) v0 v1 v2 v3 v4 v5 v6 v7 v8 v9 v10 v11 v12 v13 v14 v15 =
  (if v2 < v1 then ((lget v0 v2).bind fun b1 =>
   ((msg_Get.f ((v10, v11), b1)).bind fun b2 =>
   (if Prod.snd b2 = true then ((msg_With.f ((v15, []), b1, Prod.fst b2)).bind fun b3 =>
    (reject_Build.l1 n v0 v1 (IntKind.wrap IntKind.i64 (v2 + 1)) v3 v4 v5 v6 v7 v8 v9 v10 v11 v12 v13 v14 (Prod.fst b3) (Prod.snd b3)))
   else (reject_Build.l0 n v0 v1 (IntKind.wrap IntKind.i64 (v2 + 1)) v3 v4 v5 v6 v7 v8 v9 v10 v11 v12 v13 v14 v15))))
  else ((reject_Code.f (((v3, v4, v5), (v6, v7), v8, v9), v12)).bind fun b4 =>
   ((msg_With.f ((v15, []), 39, b4)).bind fun b5 =>
   (some ((b5, true)))))) := by kernel_rfl
-- the loop at region 6
theorem reject_Build.l1_eq (n : Nat) (v0 : List Int) (v1 : Int) (v2 : Int) (v3 : Int) (v4 : Int) (v5 : List ((Int × (Int × (Int × (Int × Int)))))) (v6 : List ((ByteArray × ByteArray))) (v7 : List ((Int × (Int × (Int × (ByteArray × List ((ByteArray × ByteArray)))))))) (v8 : List Int) (v9 : List ((Int × ByteArray))) (v10 : ByteArray) (v11 : List ((Int × ByteArray))) (v12 : Int) (v13 : Int) (v14 : ByteArray) (v15 : ByteArray) (v16 : List ((Int × ByteArray))) : reject_Build.l1 (n + 1) v0 v1 v2 v3 v4 v5 v6 v7 v8 v9 v10 v11 v12 v13 v14 v15 v16 =
  (if v2 < v1 then ((lget v0 v2).bind fun b6 =>
   ((msg_Get.f ((v10, v11), b6)).bind fun b7 =>
   (if Prod.snd b7 = true then ((msg_With.f ((v15, v16), b6, Prod.fst b7)).bind fun b8 =>
    (reject_Build.l1 n v0 v1 (IntKind.wrap IntKind.i64 (v2 + 1)) v3 v4 v5 v6 v7 v8 v9 v10 v11 v12 v13 v14 (Prod.fst b8) (Prod.snd b8)))
   else (reject_Build.l1 n v0 v1 (IntKind.wrap IntKind.i64 (v2 + 1)) v3 v4 v5 v6 v7 v8 v9 v10 v11 v12 v13 v14 v15 v16))))
  else ((reject_Code.f (((v3, v4, v5), (v6, v7), v8, v9), v12)).bind fun b9 =>
   ((msg_With.f ((v15, v16), 39, b9)).bind fun b10 =>
   (some ((b10, true)))))) := by kernel_rfl
theorem reject_Build.eq (n : Nat) (a0 : Int) (a1 : Int) (a2 : List ((Int × (Int × (Int × (Int × Int)))))) (a3 : List ((ByteArray × ByteArray))) (a4 : List ((Int × (Int × (Int × (ByteArray × List ((ByteArray × ByteArray)))))))) (a5 : List Int) (a6 : List ((Int × ByteArray))) (a7 : ByteArray) (a8 : List ((Int × ByteArray))) (a9 : Int) (a10 : Int) : call reject_Build.C Try.f38 reject_Build.code reject_Build.sg reject_Build.rs n (((a0, (a1, a2)), ((a3, a4), (a5, a6))), ((a7, a8), (a9, a10))) =
  ((mti_Response.f a7).bind fun b0 =>
  (if ¬Prod.snd b0 = true then (some (((ByteArray.mk #[], []), false)))
  else (reject_Build.l0 n a5 ((↑(List.length a5) : Int)) 0 a0 a1 a2 a3 a4 a5 a6 a7 a8 a9 a10 (ByteArray.mk #[]) (Prod.fst b0)))) := by kernel_rfl
def reject_Build.f (x : RJ × (ByteArray × List V) × Int × Int) : Option ((ByteArray × List V) × Bool) := if x.1.2.2.1.length ≤ 17592186044416 ∧ x.1.2.2.2.length ≤ 5864062014700 ∧ x.2.1.2.length ≤ 5864062014690 then some (rejB x.1 (bl x.2.1.1) x.2.1.2 x.2.2.1) else none
theorem withV_length' (n : Int) (x : ByteArray) (l : List V) : (withV n x l).length ≤ l.length + 1 := by
  unfold withV
  rw [insV_cut, List.length_append, List.length_append, List.length_take, List.length_drop, List.length_singleton]
  have := without_length n l
  omega
theorem reject_Build_l1 (q1 q2 : Int) (s : List S5) (c1 : List (ByteArray × ByteArray)) (c2 : List (Int × Int × Int × ByteArray × List (ByteArray × ByteArray))) (e : List Int) (he : e.length ≤ 17592186044416) (l : List V) (hl : l.length ≤ 5864062014700) (t u v : ByteArray) (g : List V) (hg : g.length ≤ 5864062014690) (y z : Int) :
    ∀ (m : List Int) (o : List V) (k i : Nat), e.drop i = m → Own g o → m.length < k →
    reject_Build.l1 k e (e.length : Int) (i : Int) q1 q2 s c1 c2 e l t g y z v u o = some ((u, withV 39 (codeV y l) (echoed g m o)), true)
  | [], o, k, i, hd, ho, hk => by
    obtain ⟨k, rfl⟩ : ∃ m, k = m + 1 := ⟨k - 1, by omega⟩
    have := dropn hd
    have ho' := ho.len
    rw [reject_Build.l1_eq, if_neg (by omega), reject_Code (q1, q2, s) (c1, c2) e l hl y, Option.bind_some, msg_With u o (by omega), Option.bind_some]; rfl
  | x :: m, o, k, i, hd, ho, hk => by
    obtain ⟨k, rfl⟩ : ∃ m, k = m + 1 := ⟨k - 1, by omega⟩
    obtain ⟨h1, h2, h3, h4⟩ := dropc hd
    have hk' : m.length < k := by simp at hk; omega
    have ho' := ho.len
    rw [reject_Build.l1_eq, if_pos (by omega), h4, Option.bind_some, msg_Get t g (by omega), Option.bind_some, wrap_succ (by omega), echoed]
    by_cases c : (getV x g).2 = true
    · have hx : x ∈ g.map Prod.fst := List.mem_map.2 ⟨_, getV_mem x c, rfl⟩
      rw [if_pos c, if_pos c, msg_With u o (by omega), Option.bind_some]
      exact reject_Build_l1 q1 q2 s c1 c2 e he l hl t u v g hg y z m _ k (i + 1) h2 (ho.withV _ hx) hk'
    · rw [if_neg c, if_neg c]
      exact reject_Build_l1 q1 q2 s c1 c2 e he l hl t u v g hg y z m o k (i + 1) h2 ho hk'
theorem reject_Build_l0 (q1 q2 : Int) (s : List S5) (c1 : List (ByteArray × ByteArray)) (c2 : List (Int × Int × Int × ByteArray × List (ByteArray × ByteArray))) (e : List Int) (he : e.length ≤ 17592186044416) (l : List V) (hl : l.length ≤ 5864062014700) (t u v : ByteArray) (g : List V) (hg : g.length ≤ 5864062014690) (y z : Int) :
    ∀ (m : List Int) (k i : Nat), e.drop i = m → m.length < k →
    reject_Build.l0 k e (e.length : Int) (i : Int) q1 q2 s c1 c2 e l t g y z v u = some ((u, withV 39 (codeV y l) (echoed g m [])), true)
  | [], k, i, hd, hk => by
    obtain ⟨k, rfl⟩ : ∃ m, k = m + 1 := ⟨k - 1, by omega⟩
    have := dropn hd
    rw [reject_Build.l0_eq, if_neg (by omega), reject_Code (q1, q2, s) (c1, c2) e l hl y, Option.bind_some, msg_With u [] (by decide), Option.bind_some]; rfl
  | x :: m, k, i, hd, hk => by
    obtain ⟨k, rfl⟩ : ∃ m, k = m + 1 := ⟨k - 1, by omega⟩
    obtain ⟨h1, h2, h3, h4⟩ := dropc hd
    have hk' : m.length < k := by simp at hk; omega
    rw [reject_Build.l0_eq, if_pos (by omega), h4, Option.bind_some, msg_Get t g (by omega), Option.bind_some, wrap_succ (by omega), echoed]
    by_cases c : (getV x g).2 = true
    · have hx : x ∈ g.map Prod.fst := List.mem_map.2 ⟨_, getV_mem x c, rfl⟩
      rw [if_pos c, if_pos c, msg_With u [] (by decide), Option.bind_some]
      exact reject_Build_l1 q1 q2 s c1 c2 e he l hl t u v g hg y z m _ k (i + 1) h2 ((Own.nil g).withV _ hx) hk'
    · rw [if_neg c, if_neg c]
      exact reject_Build_l0 q1 q2 s c1 c2 e he l hl t u v g hg y z m k (i + 1) h2 hk'
theorem reject_Build (s : Int × Int × List S5) (c : RC) (e : List Int) (he : e.length ≤ 17592186044416) (l : List V) (hl : l.length ≤ 5864062014700) (t : List UInt8) (g : List V) (hg : g.length ≤ 5864062014690) (y z : Int) : reject_Build.f ((s, c, e, l), (sb t, g), y, z) = some (rejB (s, c, e, l) t g y) := if_pos ⟨he, hl, hg⟩
noncomputable def reject_Build.c : Con := ⟨38, reject_Build.sg, reject_Build.rs, reject_Build.f⟩
theorem reject_Build.con : ConOk Try.prog reject_Build.c := walked (C := reject_Build.C) rfl (by kernel_rfl) (by kernel_rfl) (by kernel_rfl) rfl ⟨msg_With.con, mti_Response.con, msg_Get.con, reject_Code.con, trivial⟩ fun ⟨⟨⟨q1, q2, s⟩, ⟨c1, c2⟩, e, l⟩, ⟨t, g⟩, y, z⟩ r h => by
  obtain ⟨t, rfl⟩ := ex_sb t
  have h : reject_Build.f (((q1, q2, s), (c1, c2), e, l), (sb t, g), y, z) = some r := h
  unfold reject_Build.f at h
  split at h
  · rename_i hc
    obtain ⟨he, hl, hg⟩ := hc
    refine ⟨List.length (α := Int) e + 1, ?_⟩
    rw [reject_Build.eq, mti_Response, Option.bind_some, ← h]
    show _ = some (rejB ((q1, q2, s), (c1, c2), e, l) t g y)
    unfold rejB
    by_cases c : asks t = true
    · rw [if_pos c, if_pos c, if_neg (fun q => q rfl)]
      exact reject_Build_l0 q1 q2 s c1 c2 e he l hl (sb t) (sb (answer t)) (ByteArray.mk #[]) g hg y z e _ 0 rfl (by omega)
    · rw [if_neg c, if_neg c, if_pos (fun q => by cases q)]; rfl
  · cases h
end Go.Proofs.Ytkhmdcllookjkaa.Xe
