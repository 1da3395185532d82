/- What the reference's functions on requests and responses answer, and its Build. -/
import Derived.Test.YtkhmdcllookjkaaEr15
import Derived.Test.YtkhmdcllookjkaaEr23
import Derived.Test.YtkhmdcllookjkaaErb
namespace Go.Proofs.Ytkhmdcllookjkaa.Xe
open Go Go.RowKit Go.Proofs.Ytkhmdcllookjkaa.Sp
set_option linter.unusedVariables false
set_option linter.unusedSimpArgs false
set_option maxRecDepth 100000
theorem getNum_four {a b c d : UInt8} (h : right [a, b, c, d] = true) : getNum [a, b, c, d] = (((1000 * (a.toNat - 48) + 100 * (b.toNat - 48) + 10 * (c.toNat - 48) + (d.toNat - 48) : Nat) : Int), true) := by
  have h2 := h
  simp only [right, Bool.and_eq_true, decide_eq_true_eq] at h2
  unfold getNum
  rw [if_neg (fun q => q.elim (by simp) fun q => q.elim (by simp) fun q => by rw [h2.2] at q; cases q)]
  have e : num [a, b, c, d] = 1000 * (a.toNat - 48) + 100 * (b.toNat - 48) + 10 * (c.toNat - 48) + (d.toNat - 48) := by
    show 10 * (10 * (10 * (10 * 0 + (a.toNat - 48)) + (b.toNat - 48)) + (c.toNat - 48)) + (d.toNat - 48) = _
    omega
  rw [e]
/-! ### groatref15_Request -/
@[reducible] def groatref15_Request.sg : List Shp := [.v (.str)]
@[reducible] def groatref15_Request.rs : Rs := .one (.v (.bool))
@[reducible] noncomputable def groatref15_Request.code : Code := Try.f61.body.getD .skip
noncomputable def groatref15_Request.C : Ctx := ⟨tab, [groatref01_Get.c], [], ⟨[], []⟩⟩
theorem groatref15_Request.eq (n : Nat) (a0 : ByteArray) : call groatref15_Request.C Try.f61 groatref15_Request.code groatref15_Request.sg groatref15_Request.rs n a0 =
  ((groatref01_Get.f a0).bind fun b0 =>
  (if Prod.snd b0 = true then (if (↑(ByteArray.size a0) : Int) = 4 then (if Int.tmod (IntKind.wrap IntKind.i64 (Int.tdiv (Prod.fst b0) 10)) 10 = 0 then (some true)
    else (some (decide (Int.tmod (IntKind.wrap IntKind.i64 (Int.tdiv (Prod.fst b0) 10)) 10 = 2))))
   else (some false))
  else (some false))) := by kernel_rfl
noncomputable def groatref15_Request.f : El (sgTy groatref15_Request.sg) → Option (El groatref15_Request.rs.ty) := fun x => match x with
  | a0 =>
  ((groatref01_Get.f a0).bind fun b0 =>
  (if Prod.snd b0 = true then (if (↑(ByteArray.size a0) : Int) = 4 then (if Int.tmod (IntKind.wrap IntKind.i64 (Int.tdiv (Prod.fst b0) 10)) 10 = 0 then (some true)
    else (some (decide (Int.tmod (IntKind.wrap IntKind.i64 (Int.tdiv (Prod.fst b0) 10)) 10 = 2))))
   else (some false))
  else (some false)))
noncomputable def groatref15_Request.c : Con := ⟨61, groatref15_Request.sg, groatref15_Request.rs, groatref15_Request.f⟩
theorem groatref15_Request.con : ConOk Try.prog groatref15_Request.c := walked (C := groatref15_Request.C) rfl (by kernel_rfl) (by kernel_rfl) (by kernel_rfl) rfl ⟨groatref01_Get.con, trivial⟩ fun a0 y h => ⟨0, (groatref15_Request.eq 0 a0).trans h⟩
theorem groatref15_Request (t : List UInt8) (ht : t.length ≤ 1000000000000) : groatref15_Request.f (sb t) = some (asks t) := by
  simp only [groatref15_Request.f]
  rw [groatref01_Get t ht, Option.bind_some, size_sb]
  by_cases h : right t = true
  · obtain ⟨a, b, c, d, rfl, ha, hb, hc, hd⟩ := four h
    have ha := (dig_iff a).1 ha
    have hb := (dig_iff b).1 hb
    have hc := (dig_iff c).1 hc
    have hd := (dig_iff d).1 hd
    rw [getNum_four h]
    dsimp only
    generalize hq : 1000 * (a.toNat - 48) + 100 * (b.toNat - 48) + 10 * (c.toNat - 48) + (d.toNat - 48) = q
    have t1 : Int.tdiv (q : Int) 10 = ((q / 10 : Nat) : Int) := tdiv_nat q 10
    have t2 : Int.tmod ((q / 10 : Nat) : Int) 10 = ((q / 10 % 10 : Nat) : Int) := tmod_nat (q / 10) 10
    have e : q / 10 % 10 = c.toNat - 48 := by omega
    rw [if_pos rfl, if_pos (by simp), t1, wrap_nat (by omega), t2, e]
    unfold asks
    rw [h, Bool.true_and]
    show _ = some (decide (c.toNat = 48) || decide (c.toNat = 50))
    by_cases h1 : c.toNat = 48
    · rw [if_pos (by omega), decide_eq_true h1]; rfl
    · rw [if_neg (by omega), decide_eq_false h1, Bool.false_or]
      congr 1
      exact decide_eq_decide.2 (by omega)
  · unfold asks
    rw [Bool.eq_false_iff.2 h, Bool.false_and]
    by_cases h1 : (getNum t).2 = true
    · rw [if_pos h1]
      by_cases h2 : (t.length : Int) = 4
      · exfalso
        apply h
        unfold getNum at h1
        split at h1
        · cases h1
        · rename_i hc
          simp only [not_or] at hc
          unfold right
          rw [decide_eq_true (by omega : t.length = 4), Bool.true_and]
          simpa using hc.2.2
      · rw [if_neg h2]
    · rw [if_neg h1]
/-! ### groatref15_Response -/
@[reducible] def groatref15_Response.sg : List Shp := [.v (.str)]
@[reducible] def groatref15_Response.rs : Rs := .one (.v (.str))
@[reducible] noncomputable def groatref15_Response.code : Code := Try.f62.body.getD .skip
noncomputable def groatref15_Response.C : Ctx := ⟨tab, [groatref01_Get.c, groatref01_Put.c], [], ⟨[], []⟩⟩
theorem groatref15_Response.eq (n : Nat) (a0 : ByteArray) : call groatref15_Response.C Try.f62 groatref15_Response.code groatref15_Response.sg groatref15_Response.rs n a0 =
  ((groatref01_Get.f a0).bind fun b0 =>
  ((groatref01_Put.f (IntKind.wrap IntKind.i64 (Prod.fst b0 + 10), 4)).bind fun b1 =>
  (some (Prod.fst b1)))) := by kernel_rfl
noncomputable def groatref15_Response.f : El (sgTy groatref15_Response.sg) → Option (El groatref15_Response.rs.ty) := fun x => match x with
  | a0 =>
  ((groatref01_Get.f a0).bind fun b0 =>
  ((groatref01_Put.f (IntKind.wrap IntKind.i64 (Prod.fst b0 + 10), 4)).bind fun b1 =>
  (some (Prod.fst b1))))
noncomputable def groatref15_Response.c : Con := ⟨62, groatref15_Response.sg, groatref15_Response.rs, groatref15_Response.f⟩
theorem groatref15_Response.con : ConOk Try.prog groatref15_Response.c := walked (C := groatref15_Response.C) rfl (by kernel_rfl) (by kernel_rfl) (by kernel_rfl) rfl ⟨groatref01_Get.con, groatref01_Put.con, trivial⟩ fun a0 y h => ⟨0, (groatref15_Response.eq 0 a0).trans h⟩
theorem groatref15_Response (t : List UInt8) (h : asks t = true) : groatref15_Response.f (sb t) = some (sb (answer t)) := by
  obtain ⟨a, b, c, d, rfl, hr, ha, hb, hd, hc⟩ := asks_four h
  have ha := (dig_iff a).1 ha
  have hb := (dig_iff b).1 hb
  have hd := (dig_iff d).1 hd
  simp only [groatref15_Response.f]
  rw [groatref01_Get _ (by simp), Option.bind_some, getNum_four hr]
  dsimp only
  generalize hq : 1000 * (a.toNat - 48) + 100 * (b.toNat - 48) + 10 * (c.toNat - 48) + (d.toNat - 48) = q
  have w : IntKind.wrap .i64 ((q : Int) + 10) = ((q + 10 : Nat) : Int) := by rw [wrap_id (by omega) (by omega)]; omega
  have f : groatref01_Put.f (((q + 10 : Nat) : Int), 4) = some (putNum ((q + 10 : Nat) : Int) 4) := if_pos ⟨by dsimp only; omega, by dsimp only; omega⟩
  have hlt : q + 10 < 10 ^ 4 := by omega
  rw [w, f, Option.bind_some]
  unfold putNum
  rw [if_neg (fun z => z.elim (by omega) fun z => z.elim (by decide) fun z => z.elim (by decide) fun z => z (by rw [Int.toNat_natCast]; exact hlt)), Int.toNat_natCast]
  suffices key : digs 4 (q + 10) = answer [a, b, c, d] by
    show some (sb (digs 4 (q + 10))) = _
    rw [key]
  clear f hlt
  rw [digs_front 3, digs_front 2, digs_front 1, digs_front 0]
  have z : digs 0 (q + 10) = [] := rfl
  have p3 : (q + 10) / 10 ^ 3 % 10 = a.toNat - 48 := by omega
  have p2 : (q + 10) / 10 ^ 2 % 10 = b.toNat - 48 := by omega
  have p1 : (q + 10) / 10 ^ 1 % 10 = c.toNat - 47 := by omega
  have p0 : (q + 10) / 10 ^ 0 % 10 = d.toNat - 48 := by omega
  rw [z, p3, p2, p1, p0]
  show _ = [a, b, u8 (c.toNat + 1), d]
  rw [show 48 + (a.toNat - 48) = a.toNat by omega, show 48 + (b.toNat - 48) = b.toNat by omega, show 48 + (c.toNat - 47) = c.toNat + 1 by omega, show 48 + (d.toNat - 48) = d.toNat by omega, u8_of_nat, u8_of_nat, u8_of_nat]
end Go.Proofs.Ytkhmdcllookjkaa.Xe
