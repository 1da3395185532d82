/- The law on what is echoed. -/
import Derived.Test.YtkhmdcllookjkaaA23
import Derived.Test.YtkhmdcllookjkaaEr23c
import Derived.Test.YtkhmdcllookjkaaEr05i
import Derived.Test.YtkhmdcllookjkaaEr16
import Derived.Test.YtkhmdcllookjkaaXop
namespace Go.Proofs.Ytkhmdcllookjkaa.Xe
open Go Go.RowKit Go.Proofs.Ytkhmdcllookjkaa.Sp
set_option linter.unusedVariables false
set_option linter.unusedSimpArgs false
set_option maxRecDepth 100000
theorem getV_filter {n k : Int} (h : n ≠ k) : ∀ l : List V, getV n (without k l) = getV n l
  | [] => rfl
  | v :: m => by
    have ih := getV_filter h m
    rw [without_cons]
    by_cases c : v.1 = k
    · rw [if_neg (not_not_intro c), ih, getV, if_neg (show ¬ v.1 = n from fun e => h (by rw [← e, c]))]
    · rw [if_pos c, getV, getV, ih]
theorem getV_ins_ne {n k : Int} (h : n ≠ k) (x : ByteArray) : ∀ l : List V, getV n (insV k x l) = getV n l
  | [] => by
    show (if k = n then (x, true) else getV n []) = getV n []
    rw [if_neg (fun e => h e.symm)]
  | v :: m => by
    rw [insV]
    split
    · show (if k = n then (x, true) else getV n (v :: m)) = getV n (v :: m)
      rw [if_neg (fun e => h e.symm)]
    · rw [getV, getV, getV_ins_ne h x m]
theorem getV_with_ne {n k : Int} (h : n ≠ k) (x : ByteArray) (l : List V) : getV n (withV k x l) = getV n l := (getV_ins_ne h x _).trans (getV_filter h l)
theorem getV_echoed (n : Int) (g : List V) : ∀ (m : List Int) (o : List V), getV n (echoed g m o) = if n ∈ m ∧ (getV n g).2 = true then getV n g else getV n o
  | [], o => by
    rw [if_neg (show ¬ (n ∈ ([] : List Int) ∧ (getV n g).2 = true) from fun e => by cases e.1)]; rfl
  | x :: m, o => by
    have key : n ≠ x → getV n (if (getV x g).2 = true then withV x (getV x g).1 o else o) = getV n o := fun e => by
      by_cases q : (getV x g).2 = true
      · rw [if_pos q]; exact getV_with_ne e _ _
      · rw [if_neg q]
    rw [echoed, getV_echoed n g m]
    by_cases c : (getV n g).2 = true
    · by_cases d : n ∈ m
      · rw [if_pos (show n ∈ m ∧ (getV n g).2 = true from ⟨d, c⟩), if_pos (show n ∈ x :: m ∧ (getV n g).2 = true from ⟨List.mem_cons_of_mem _ d, c⟩)]
      · rw [if_neg (show ¬ (n ∈ m ∧ (getV n g).2 = true) from fun e => d e.1)]
        by_cases e : n = x
        · subst e
          rw [if_pos c, if_pos (show n ∈ n :: m ∧ (getV n g).2 = true from ⟨List.mem_cons_self .., c⟩), getV_with]
          exact Prod.ext rfl c.symm
        · rw [if_neg (show ¬ (n ∈ x :: m ∧ (getV n g).2 = true) from fun q => (List.mem_cons.1 q.1).elim e d)]
          exact key e
    · rw [if_neg (show ¬ (n ∈ m ∧ (getV n g).2 = true) from fun e => c e.2), if_neg (show ¬ (n ∈ x :: m ∧ (getV n g).2 = true) from fun e => c e.2)]
      by_cases e : n = x
      · subst e
        rw [if_neg c]
      · exact key e
/-! ### groatlaw23_RejectEchoes -/
@[reducible] def groatlaw23_RejectEchoes.sg : List Shp := [.a (.pair (.pair (.int .i64) (.pair (.int .i64) (.sl (.pair (.int .i64) (.pair (.int .i64) (.pair (.int .i64) (.pair (.int .i64) (.int .i64)))))))) (.pair (.pair (.sl (.pair (.str) (.str))) (.sl (.pair (.int .i64) (.pair (.int .i64) (.pair (.int .i64) (.pair (.str) (.sl (.pair (.str) (.str))))))))) (.pair (.sl (.int .i64)) (.sl (.pair (.int .i64) (.str)))))), .a (.pair (.str) (.sl (.pair (.int .i64) (.str)))), .a (.pair (.int .i64) (.int .i64))]
@[reducible] def groatlaw23_RejectEchoes.rs : Rs := .one (.v (.bool))
@[reducible] noncomputable def groatlaw23_RejectEchoes.code : Code := Try.f11.body.getD .skip
noncomputable def groatlaw23_RejectEchoes.C : Ctx := ⟨tab, [groatref16_Great.c, msg_Get.c, groatlaw23_awake.c, groatref23_Great.c, reject_Code.c, reject_Build.c, groatref23_Right.c, groatref05_In.c], [], ⟨[(5, [3, 4, 5, 7, 9], 4)], []⟩⟩
noncomputable def groatlaw23_RejectEchoes.l0 (n : Nat) (v0 : Int) (v1 : Int) (v2 : Int) (v3 : List ((Int × (Int × (Int × (Int × Int)))))) (v4 : List ((ByteArray × ByteArray))) (v5 : List ((Int × (Int × (Int × (ByteArray × List ((ByteArray × ByteArray)))))))) (v6 : List Int) (v7 : List ((Int × ByteArray))) (v8 : ByteArray) (v9 : List ((Int × ByteArray))) (v10 : Int) (v11 : Int) (v12 : ByteArray) (v13 : List ((Int × ByteArray))) : Option Bool := run groatlaw23_RejectEchoes.C (finOf groatlaw23_RejectEchoes.C Try.f11 groatlaw23_RejectEchoes.rs) n (todoAt 5 groatlaw23_RejectEchoes.code) ⟨[.junk, .junk, .junk, .ptr 0 0, .ptr 1 0, .ptr 2 0, .junk, .ptr 3 0, .junk, .int .i64 v0, .junk, .junk, .junk, .junk, .junk, .junk, .junk, .junk, .junk, .junk, .junk, .junk, .junk, .junk, .junk, .junk, .junk, .junk, .junk, .junk, .junk, .junk, .junk, .junk, .junk, .junk, .junk, .junk, .junk, .junk, .junk, .junk, .junk, .junk, .junk, .junk, .junk, .junk, .junk, .junk, .junk, .junk, .junk, .junk, .junk, .junk, .junk, .junk, .junk, .junk, .junk, .junk, .junk, .junk, .junk, .junk, .junk, .junk, .junk, .junk, .junk, .junk, .junk, .junk, .junk, .junk, .junk, .junk, .junk, .junk, .junk], [[.int .i64 v1, .int .i64 v2, .sl none (.pair (.int .i64) (.pair (.int .i64) (.pair (.int .i64) (.pair (.int .i64) (.int .i64))))) v3, .sl none (.pair (.str) (.str)) v4, .sl none (.pair (.int .i64) (.pair (.int .i64) (.pair (.int .i64) (.pair (.str) (.sl (.pair (.str) (.str))))))) v5, .sl none (.int .i64) v6, .sl none (.pair (.int .i64) (.str)) v7], [.str v8, .sl none (.pair (.int .i64) (.str)) v9], [.int .i64 v10, .int .i64 v11], [.str v12, .sl none (.pair (.int .i64) (.str)) v13]], []⟩
-- the loop at region 5
theorem groatlaw23_RejectEchoes.l0_eq (n : Nat) (v0 : Int) (v1 : Int) (v2 : Int) (v3 : List ((Int × (Int × (Int × (Int × Int)))))) (v4 : List ((ByteArray × ByteArray))) (v5 : List ((Int × (Int × (Int × (ByteArray × List ((ByteArray × ByteArray)))))))) (v6 : List Int) (v7 : List ((Int × ByteArray))) (v8 : ByteArray) (v9 : List ((Int × ByteArray))) (v10 : Int) (v11 : Int) (v12 : ByteArray) (v13 : List ((Int × ByteArray))) : groatlaw23_RejectEchoes.l0 (n + 1) v0 v1 v2 v3 v4 v5 v6 v7 v8 v9 v10 v11 v12 v13 =
  (if v0 ≤ 128 then ((msg_Get.f ((v12, v13), v0)).bind fun b10 =>
   ((msg_Get.f ((v8, v9), v0)).bind fun b11 =>
   (if v0 = 39 then ((reject_Code.f (((v1, v2, v3), (v4, v5), v6, v7), v10)).bind fun b12 =>
    (if ¬decide (Prod.snd b10 = true) = true then (some false)
    else (if Prod.snd b10 = true then (if ¬Prod.fst b10 = b12 then (some false)
      else (groatlaw23_RejectEchoes.l0 n (IntKind.wrap IntKind.i64 (v0 + 1)) v1 v2 v3 v4 v5 v6 v7 v8 v9 v10 v11 v12 v13))
     else (groatlaw23_RejectEchoes.l0 n (IntKind.wrap IntKind.i64 (v0 + 1)) v1 v2 v3 v4 v5 v6 v7 v8 v9 v10 v11 v12 v13))))
   else (if Prod.snd b11 = true then ((groatref05_In.f (v6, v0)).bind fun b13 =>
     (if ¬decide (Prod.snd b10 = true) = decide (b13 = true) then (some false)
     else (if Prod.snd b10 = true then (if ¬Prod.fst b10 = Prod.fst b11 then (some false)
       else (groatlaw23_RejectEchoes.l0 n (IntKind.wrap IntKind.i64 (v0 + 1)) v1 v2 v3 v4 v5 v6 v7 v8 v9 v10 v11 v12 v13))
      else (groatlaw23_RejectEchoes.l0 n (IntKind.wrap IntKind.i64 (v0 + 1)) v1 v2 v3 v4 v5 v6 v7 v8 v9 v10 v11 v12 v13))))
    else (if ¬decide (Prod.snd b10 = true) = false then (some false)
     else (if Prod.snd b10 = true then (if ¬Prod.fst b10 = Prod.fst b11 then (some false)
       else (groatlaw23_RejectEchoes.l0 n (IntKind.wrap IntKind.i64 (v0 + 1)) v1 v2 v3 v4 v5 v6 v7 v8 v9 v10 v11 v12 v13))
      else (groatlaw23_RejectEchoes.l0 n (IntKind.wrap IntKind.i64 (v0 + 1)) v1 v2 v3 v4 v5 v6 v7 v8 v9 v10 v11 v12 v13)))))))
  else (some true)) := by kernel_rfl
theorem groatlaw23_RejectEchoes.eq (n : Nat) (a0 : Int) (a1 : Int) (a2 : List ((Int × (Int × (Int × (Int × Int)))))) (a3 : List ((ByteArray × ByteArray))) (a4 : List ((Int × (Int × (Int × (ByteArray × List ((ByteArray × ByteArray)))))))) (a5 : List Int) (a6 : List ((Int × ByteArray))) (a7 : ByteArray) (a8 : List ((Int × ByteArray))) (a9 : Int) (a10 : Int) : call groatlaw23_RejectEchoes.C Try.f11 groatlaw23_RejectEchoes.code groatlaw23_RejectEchoes.sg groatlaw23_RejectEchoes.rs n (((a0, (a1, a2)), ((a3, a4), (a5, a6))), ((a7, a8), (a9, a10))) =
  ((reject_Build.f (((a0, a1, a2), (a3, a4), a5, a6), (a7, a8), a9, a10)).bind fun b0 =>
  ((groatlaw23_awake.f ()).bind fun b1 =>
  (if ¬b1 = true then ((groatlaw23_awake.f ()).bind fun b2 =>
   (some (decide (b2 = true))))
  else ((groatref23_Great.f ((a0, a1, a2), (a3, a4), a5, a6)).bind fun b3 =>
   (if b3 = true then ((groatlaw23_awake.f ()).bind fun b4 =>
    (some (decide (b4 = true))))
   else ((groatref16_Great.f (a7, a8)).bind fun b5 =>
    (if b5 = true then ((groatlaw23_awake.f ()).bind fun b6 =>
     (some (decide (b6 = true))))
    else ((groatref23_Right.f ((a0, a1, a2), (a3, a4), a5, a6)).bind fun b7 =>
     (if ¬b7 = true then ((groatlaw23_awake.f ()).bind fun b8 =>
      (some (decide (b8 = true))))
     else (if ¬Prod.snd b0 = true then ((groatlaw23_awake.f ()).bind fun b9 =>
       (some (decide (b9 = true))))
      else (groatlaw23_RejectEchoes.l0 n 2 a0 a1 a2 a3 a4 a5 a6 a7 a8 a9 a10 (Prod.fst (Prod.fst b0)) (Prod.snd (Prod.fst b0))))))))))))) := by kernel_rfl
theorem groatlaw23_RejectEchoes.ok : CtxOk Try.prog groatlaw23_RejectEchoes.C := ⟨AllOk.all (show AllOk groatlaw23_RejectEchoes.C.G from ⟨groatref16_Great.con, msg_Get.con, groatlaw23_awake.con, groatref23_Great.con, reject_Code.con, reject_Build.con, groatref23_Right.con, groatref05_In.con, trivial⟩), fun c hc => absurd (show c ∈ ([] : List ConS) from hc) (by simp)⟩
theorem groatlaw23_RejectEchoes_l (q1 q2 : Int) (s : List S5) (c1 : List (ByteArray × ByteArray)) (c2 : List (Int × Int × Int × ByteArray × List (ByteArray × ByteArray))) (e : List Int) (he : e.length ≤ 1000000) (l : List V) (hl : l.length ≤ 1000000) (t u : ByteArray) (g : List V) (hg : g.length ≤ 1000000) (y z : Int) (x : List V) (hx : x.length ≤ 2000000) (h : x = withV 39 (codeV y l) (echoed g e [])) :
    ∀ (d i k : Nat), i + d = 129 → d < k → groatlaw23_RejectEchoes.l0 k (i : Int) q1 q2 s c1 c2 e l t g y z u x = some true
  | 0, i, k, hi, hk => by
    obtain ⟨k, rfl⟩ : ∃ m, k = m + 1 := ⟨k - 1, by omega⟩
    rw [groatlaw23_RejectEchoes.l0_eq, if_neg (by omega)]
  | d + 1, i, k, hi, hk => by
    obtain ⟨k, rfl⟩ : ∃ m, k = m + 1 := ⟨k - 1, by omega⟩
    have ih := groatlaw23_RejectEchoes_l q1 q2 s c1 c2 e he l hl t u g hg y z x hx h d (i + 1) k (by omega) (by omega)
    rw [groatlaw23_RejectEchoes.l0_eq, if_pos (by omega), msg_Get u x (by omega), Option.bind_some, msg_Get t g (by omega), Option.bind_some, wrap_succ (by omega), ih]
    by_cases c : (i : Int) = 39
    · have e1 : getV (i : Int) x = (codeV y l, true) := by rw [h, c, getV_with]
      rw [if_pos c, reject_Code _ _ _ l (by omega), Option.bind_some, e1]
      simp
    · have e1 : getV (i : Int) x = if (i : Int) ∈ e ∧ (getV (i : Int) g).2 = true then getV (i : Int) g else (sb [], false) := by
        rw [h, getV_with_ne c, getV_echoed]; rfl
      rw [if_neg c, e1]
      by_cases c2 : (getV (i : Int) g).2 = true
      · rw [if_pos c2, groatref05_In e he, Option.bind_some]
        by_cases c3 : (i : Int) ∈ e
        · rw [if_pos (show (i : Int) ∈ e ∧ (getV (i : Int) g).2 = true from ⟨c3, c2⟩), c2, decide_eq_true c3]; simp
        · rw [if_neg (show ¬ ((i : Int) ∈ e ∧ (getV (i : Int) g).2 = true) from fun q => c3 q.1), decide_eq_false c3]; simp
      · rw [if_neg c2, if_neg (show ¬ ((i : Int) ∈ e ∧ (getV (i : Int) g).2 = true) from fun q => c2 q.2)]; simp
theorem groatlaw23_RejectEchoes.holds (x : RJ × (ByteArray × List V) × Int × Int) (w : Wf (sgTy groatlaw23_RejectEchoes.sg) x) : ∃ n, call groatlaw23_RejectEchoes.C Try.f11 groatlaw23_RejectEchoes.code groatlaw23_RejectEchoes.sg groatlaw23_RejectEchoes.rs n x = some true := by
  obtain ⟨⟨⟨q1, q2, s⟩, ⟨c1, c2⟩, e, l⟩, ⟨t, g⟩, y, z⟩ := x
  obtain ⟨⟨-, -, w1, w2⟩, ⟨-, w3⟩, -⟩ := w
  have b1 : e.length ≤ 17592186044416 := by have := w1.2.1; dsimp only at this; rw [show Ty.low (.int .i64) = 8 from rfl] at this; omega
  have b2 : l.length ≤ 5864062014700 := by have := w2.2.1; dsimp only at this; rw [show Ty.low (.pair (.int .i64) .str) = 24 from rfl] at this; omega
  have b3 : g.length ≤ 5864062014690 := by have := w3.2.1; dsimp only at this; rw [show Ty.low (.pair (.int .i64) .str) = 24 from rfl] at this; omega
  clear w1 w2 w3
  obtain ⟨t, rfl⟩ := ex_sb t
  refine ⟨200, ?_⟩
  rw [groatlaw23_RejectEchoes.eq, reject_Build _ _ e b1 l b2 t g b3, Option.bind_some]
  simp only [groatlaw23_awake.f, Option.bind_some, not_true_eq_false, if_false, groatref23_Great, groatref16_Great]
  cases g1 : greatR ((q1, q2, s), (c1, c2), e, l) with
  | true => simp
  | false =>
    cases g2 : great (sb t) g with
    | true => simp
    | false =>
      obtain ⟨h1, h2, h3, h4⟩ := greatR_no g1
      obtain ⟨i1, i2, i3⟩ := great_no g2
      dsimp only at h1 h2 h3
      have hl : okM l := ⟨by omega, fun v hv => by have := h4 v hv; omega⟩
      rw [if_neg (by simp), if_neg (by simp), groatref23_Right _ ⟨by dsimp only; omega, by dsimp only; omega, hl⟩, Option.bind_some]
      by_cases k1 : (rejE ((q1, q2, s), (c1, c2), e, l)).1 = 0
      · rw [decide_eq_true k1, if_neg (by simp)]
        unfold rejB
        by_cases k3 : asks t = true
        · rw [if_pos k3, if_neg (by simp)]
          have hn := (Own.echoed e [] (Own.nil g)).len
          have hw := withV_length' 39 (codeV y l) (echoed g e [])
          exact groatlaw23_RejectEchoes_l q1 q2 s c1 c2 e (by omega) l (by omega) (sb t) (sb (answer t)) g (by omega) y z _ (by omega) rfl 127 2 200 (by omega) (by omega)
        · rw [if_neg k3, if_pos (by simp)]; simp
      · rw [decide_eq_false k1, if_pos (by simp)]; simp
end Go.Proofs.Ytkhmdcllookjkaa.Xe
