/- What the program's search for a set's next number answers. -/
import Derived.Test.YtkaihbkfobiejaaGreatDoorNgd
import Derived.Test.YtkaihbkfobiejaaGreatDoorSlen
import Derived.Test.YtkaihbkfobiejaaGreatDoorXgh
namespace Go.Proofs.YtkaihbkfobiejaaGreatDoor.Xe
open Go Go.RowKit Go.Proofs.YtkaihbkfobiejaaGreatDoor.Sp
set_option linter.unusedVariables false
set_option linter.unusedSimpArgs false
set_option maxRecDepth 100000
theorem lenAux_log : ∀ (f x : Nat), x < 2 ^ f → Lib.bitLenAux f x = blen x
  | 0, x, h => by
    have : x = 0 := by simpa using h
    subst this; rfl
  | f + 1, x, h => by
    rw [Lib.bitLenAux]
    by_cases c : x = 0
    · rw [if_pos c, c]; rfl
    · rw [if_neg c, lenAux_log f (x / 2) (by rw [Nat.pow_succ] at h; omega), blen_half x (by omega)]; omega
theorem bitLen_log {x : Nat} (h : x < 18446744073709551616) : Lib.bitLen x = blen x := lenAux_log 64 x h
@[reducible] def math_bits_LeadingZeros64.sg : List Shp := [.v (.int .u64)]
@[reducible] def math_bits_LeadingZeros64.rs : Rs := .one (.v (.int .i64))
noncomputable def math_bits_LeadingZeros64.f (x : Int) : Option Int := if 0 ≤ x ∧ x < 18446744073709551616 then some (64 - (blen x.toNat : Int)) else none
noncomputable def math_bits_LeadingZeros64.c : Con := ⟨53, math_bits_LeadingZeros64.sg, math_bits_LeadingZeros64.rs, math_bits_LeadingZeros64.f⟩
theorem math_bits_LeadingZeros64.con : ConOk Tryz.prog math_bits_LeadingZeros64.c := ⟨⟨_, Tryz.func53, by kernel_rfl, by kernel_rfl⟩, fun (x : Int) y h σ w vs hf hr => by
  have h : math_bits_LeadingZeros64.f x = some y := h
  obtain ⟨v, rfl, hv⟩ : ∃ v, vs = [v] ∧ [v] = [Value.int .u64 x] := hr
  obtain rfl := (List.cons.inj hv).1
  unfold math_bits_LeadingZeros64.f at h
  split at h
  · rename_i hc
    have h : (64 : Int) - (blen x.toNat : Int) = y := Option.some.inj h
    refine (Tryz.bits_LeadingZeros64 x w hc.1 (by omega)).mono ?_
    rintro e w' ⟨rfl, rfl⟩
    refine ⟨_, σ, rfl, Grow.refl hf, ?_⟩
    rw [bitLen_log (by omega)]
    show [Value.int .i64 _] = [Value.int .i64 y]
    rw [h]
  · cases h⟩
theorem math_bits_LeadingZeros64 (x : Nat) (h : x < 18446744073709551616) : math_bits_LeadingZeros64.f (x : Int) = some ((64 - blen x : Nat) : Int) := by
  have hb := blen_le h
  unfold math_bits_LeadingZeros64.f
  rw [if_pos (by omega), Int.toNat_natCast]
  exact congrArg some (show (64 : Int) - (blen x : Int) = ((64 - blen x : Nat) : Int) by omega)
theorem u64_shl (x n : Nat) (hn : n ≤ 64) : IntKind.wrap IntKind.u64 ((x : Int) * 2 ^ min n 64) = ((x * 2 ^ n % 18446744073709551616 : Nat) : Int) := by
  rw [IntKind.wrap_u64, Nat.min_eq_left hn, show ((2 : Int) ^ n) = ((2 ^ n : Nat) : Int) by simp]
  generalize (2 : Nat) ^ n = y
  rw [← Int.natCast_mul]
  omega
/-! ### fields_Set_Next -/
@[reducible] def fields_Set_Next.sg : List Shp := [.a (.pair (.int .u64) (.int .u64)), .v (.int .i64)]
@[reducible] def fields_Set_Next.rs : Rs := .one (.v (.int .i64))
@[reducible] noncomputable def fields_Set_Next.code : Code := Tryz.f17.body.getD .skip
noncomputable def fields_Set_Next.C : Ctx := ⟨tab, [math_bits_LeadingZeros64.c], [], ⟨[], []⟩⟩
theorem fields_Set_Next.eq (n : Nat) (a0 : Int) (a1 : Int) (a2 : Int) : call fields_Set_Next.C Tryz.f17 fields_Set_Next.code fields_Set_Next.sg fields_Set_Next.rs n ((a0, a1), a2) =
  (if 0 > a2 then (if ¬IntKind.wrap IntKind.u64 (a0 * 2 ^ 0) = 0 then ((math_bits_LeadingZeros64.f (IntKind.wrap IntKind.u64 (a0 * 2 ^ 0))).bind fun b0 =>
    (some (IntKind.wrap IntKind.i64 (IntKind.wrap IntKind.i64 (0 + b0) + 1))))
   else (if ¬IntKind.wrap IntKind.u64 (a1 * 2 ^ 0) = 0 then ((math_bits_LeadingZeros64.f (IntKind.wrap IntKind.u64 (a1 * 2 ^ 0))).bind fun b1 =>
     (some (IntKind.wrap IntKind.i64 (IntKind.wrap IntKind.i64 (64 + b1) + 1))))
    else (some 0)))
  else (if a2 < 64 then (if a2 < 0 then none
    else (if ¬IntKind.wrap IntKind.u64 (a0 * 2 ^ min (Int.toNat a2) 64) = 0 then ((math_bits_LeadingZeros64.f (IntKind.wrap IntKind.u64 (a0 * 2 ^ min (Int.toNat a2) 64))).bind fun b2 =>
      (some (IntKind.wrap IntKind.i64 (IntKind.wrap IntKind.i64 (a2 + b2) + 1))))
     else (if ¬IntKind.wrap IntKind.u64 (a1 * 2 ^ 0) = 0 then ((math_bits_LeadingZeros64.f (IntKind.wrap IntKind.u64 (a1 * 2 ^ 0))).bind fun b3 =>
       (some (IntKind.wrap IntKind.i64 (IntKind.wrap IntKind.i64 (64 + b3) + 1))))
      else (some 0))))
   else (if 64 < IntKind.wrap IntKind.i64 (a2 - 64) then (if ¬IntKind.wrap IntKind.u64 (a1 * 2 ^ 64) = 0 then ((math_bits_LeadingZeros64.f (IntKind.wrap IntKind.u64 (a1 * 2 ^ 64))).bind fun b4 =>
      (some (IntKind.wrap IntKind.i64 (IntKind.wrap IntKind.i64 (a2 + b4) + 1))))
     else (some 0))
    else (if IntKind.wrap IntKind.i64 (a2 - 64) < 0 then none
     else (if ¬IntKind.wrap IntKind.u64 (a1 * 2 ^ min (Int.toNat (IntKind.wrap IntKind.i64 (a2 - 64))) 64) = 0 then ((math_bits_LeadingZeros64.f (IntKind.wrap IntKind.u64 (a1 * 2 ^ min (Int.toNat (IntKind.wrap IntKind.i64 (a2 - 64))) 64))).bind fun b5 =>
       (some (IntKind.wrap IntKind.i64 (IntKind.wrap IntKind.i64 (a2 + b5) + 1))))
      else (some 0)))))) := by kernel_rfl
noncomputable def fields_Set_Next.f : El (sgTy fields_Set_Next.sg) → Option (El fields_Set_Next.rs.ty) := fun x => match x with
  | ((a0, a1), a2) =>
  (if 0 > a2 then (if ¬IntKind.wrap IntKind.u64 (a0 * 2 ^ 0) = 0 then ((math_bits_LeadingZeros64.f (IntKind.wrap IntKind.u64 (a0 * 2 ^ 0))).bind fun b0 =>
    (some (IntKind.wrap IntKind.i64 (IntKind.wrap IntKind.i64 (0 + b0) + 1))))
   else (if ¬IntKind.wrap IntKind.u64 (a1 * 2 ^ 0) = 0 then ((math_bits_LeadingZeros64.f (IntKind.wrap IntKind.u64 (a1 * 2 ^ 0))).bind fun b1 =>
     (some (IntKind.wrap IntKind.i64 (IntKind.wrap IntKind.i64 (64 + b1) + 1))))
    else (some 0)))
  else (if a2 < 64 then (if a2 < 0 then none
    else (if ¬IntKind.wrap IntKind.u64 (a0 * 2 ^ min (Int.toNat a2) 64) = 0 then ((math_bits_LeadingZeros64.f (IntKind.wrap IntKind.u64 (a0 * 2 ^ min (Int.toNat a2) 64))).bind fun b2 =>
      (some (IntKind.wrap IntKind.i64 (IntKind.wrap IntKind.i64 (a2 + b2) + 1))))
     else (if ¬IntKind.wrap IntKind.u64 (a1 * 2 ^ 0) = 0 then ((math_bits_LeadingZeros64.f (IntKind.wrap IntKind.u64 (a1 * 2 ^ 0))).bind fun b3 =>
       (some (IntKind.wrap IntKind.i64 (IntKind.wrap IntKind.i64 (64 + b3) + 1))))
      else (some 0))))
   else (if 64 < IntKind.wrap IntKind.i64 (a2 - 64) then (if ¬IntKind.wrap IntKind.u64 (a1 * 2 ^ 64) = 0 then ((math_bits_LeadingZeros64.f (IntKind.wrap IntKind.u64 (a1 * 2 ^ 64))).bind fun b4 =>
      (some (IntKind.wrap IntKind.i64 (IntKind.wrap IntKind.i64 (a2 + b4) + 1))))
     else (some 0))
    else (if IntKind.wrap IntKind.i64 (a2 - 64) < 0 then none
     else (if ¬IntKind.wrap IntKind.u64 (a1 * 2 ^ min (Int.toNat (IntKind.wrap IntKind.i64 (a2 - 64))) 64) = 0 then ((math_bits_LeadingZeros64.f (IntKind.wrap IntKind.u64 (a1 * 2 ^ min (Int.toNat (IntKind.wrap IntKind.i64 (a2 - 64))) 64))).bind fun b5 =>
       (some (IntKind.wrap IntKind.i64 (IntKind.wrap IntKind.i64 (a2 + b5) + 1))))
      else (some 0))))))
noncomputable def fields_Set_Next.c : Con := ⟨17, fields_Set_Next.sg, fields_Set_Next.rs, fields_Set_Next.f⟩
theorem fields_Set_Next.con : ConOk Tryz.prog fields_Set_Next.c := walked (C := fields_Set_Next.C) rfl (by kernel_rfl) (by kernel_rfl) (by kernel_rfl) rfl ⟨math_bits_LeadingZeros64.con, trivial⟩ fun ⟨⟨a0, a1⟩, a2⟩ y h => ⟨0, (fields_Set_Next.eq 0 a0 a1 a2).trans h⟩
theorem next_low (h l n : Nat) (hn : 64 ≤ n) (hn2 : n ≤ 128) (m c : Int) (hm : m = ((l * 2 ^ (n - 64) % 18446744073709551616 : Nat) : Int)) (hc : c = (n : Int)) :
    (if ¬ m = 0 then (math_bits_LeadingZeros64.f m).bind fun b => some (IntKind.wrap IntKind.i64 (IntKind.wrap IntKind.i64 (c + b) + 1)) else some 0) = some (nextS h l n) := by
  subst hm; subst hc
  obtain ⟨h1, h2⟩ := from_low (h := h) (l := l) hn hn2
  unfold nextS
  have hlt : l * 2 ^ (n - 64) % 18446744073709551616 < 18446744073709551616 := Nat.mod_lt _ (by decide)
  generalize l * 2 ^ (n - 64) % 18446744073709551616 = x at *
  by_cases c : x = 0
  · rw [if_neg (by omega), h1 c]; rfl
  · rw [if_pos (by omega), math_bits_LeadingZeros64 x hlt, Option.bind_some, wrap_id (x := (n : Int) + _) (by omega) (by omega), wrap_id (by omega) (by omega), h2 c]
    show some _ = some (((n + (64 - blen x) + 1 : Nat)) : Int)
    congr 1
theorem fields_Set_Next (h l n : Nat) (hn : n ≤ 128) : fields_Set_Next.f (((h : Int), (l : Int)), (n : Int)) = some (nextS h l n) := by
  simp only [fields_Set_Next.f]
  rw [if_neg (show ¬ (0 : Int) > (n : Int) by omega)]
  by_cases c : n < 64
  · obtain ⟨h1, h2⟩ := from_high (h := h) (l := l) c
    have e0 : IntKind.wrap IntKind.u64 ((l : Int) * 2 ^ 0) = ((l * 2 ^ (64 - 64) % 18446744073709551616 : Nat) : Int) := u64_shl l 0 (by decide)
    rw [if_pos (show (n : Int) < 64 by omega), if_neg (show ¬ (n : Int) < 0 by omega), Int.toNat_natCast, u64_shl h n (by omega)]
    have hlt : h * 2 ^ n % 18446744073709551616 < 18446744073709551616 := Nat.mod_lt _ (by decide)
    generalize h * 2 ^ n % 18446744073709551616 = x at *
    by_cases c2 : x = 0
    · refine (if_neg (show ¬ ¬ ((x : Nat) : Int) = 0 by omega)).trans ?_
      refine (next_low h l 64 (by omega) (by omega) _ 64 e0 rfl).trans ?_
      unfold nextS
      rw [h1 c2]
    · rw [if_pos (show ¬ ((x : Nat) : Int) = 0 by omega), math_bits_LeadingZeros64 x hlt, Option.bind_some, wrap_id (x := (n : Int) + _) (by omega) (by omega), wrap_id (by omega) (by omega)]
      unfold nextS
      rw [h2 c2]
      show some _ = some (((n + (64 - blen x) + 1 : Nat)) : Int)
      congr 1
  · have w : IntKind.wrap IntKind.i64 ((n : Int) - 64) = ((n - 64 : Nat) : Int) := by rw [wrap_id (by omega) (by omega)]; omega
    rw [if_neg (show ¬ (n : Int) < 64 by omega), w, if_neg (show ¬ (64 : Int) < ((n - 64 : Nat) : Int) by omega), if_neg (show ¬ ((n - 64 : Nat) : Int) < 0 by omega), Int.toNat_natCast]
    exact next_low h l n (by omega) hn _ _ (u64_shl l (n - 64) (by omega)) rfl
end Go.Proofs.YtkaihbkfobiejaaGreatDoor.Xe
