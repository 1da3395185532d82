/- What the program's functions on MTIs answer. -/
import Derived.Test.YtncchgjoikeenaaBa
import Derived.Test.YtncchgjoikeenaaPx1
namespace Go.Proofs.Ytncchgjoikeenaa.Sp
open Go.RowKit Go.Proofs.YtncchgjoikeenaaW.PrintWords Go.Proofs.YtncchgjoikeenaaW.PrintLast Go.Proofs.YtncchgjoikeenaaW.PrintMore Go.Proofs.Ytncchgjoikeenaa.P
/-- Is it an MTI? -/
def right (l : List UInt8) : Bool := decide (l.length = 4) && l.all dig
theorem four {l : List UInt8} (h : right l = true) : ∃ a b c d, l = [a, b, c, d] ∧ dig a = true ∧ dig b = true ∧ dig c = true ∧ dig d = true := by
  simp only [right, Bool.and_eq_true, decide_eq_true_eq] at h
  obtain ⟨h4, hd⟩ := h
  match l, h4, hd with
  | [a, b, c, d], _, hd =>
    simp only [List.all_cons, List.all_nil, Bool.and_true, Bool.and_eq_true] at hd
    exact ⟨a, b, c, d, rfl, hd.1, hd.2.1, hd.2.2.1, hd.2.2.2⟩
theorem right_four {a b c d : UInt8} (ha : dig a = true) (hb : dig b = true) (hc : dig c = true) (hd : dig d = true) : right [a, b, c, d] = true := by
  simp [right, ha, hb, hc, hd]
def asks (l : List UInt8) : Bool := right l && (decide ((l[2]?.getD 0).toNat = 48) || decide ((l[2]?.getD 0).toNat = 50))
theorem mti_Right (l : List UInt8) : mti_Right.f (sb l) = some (right l) := by
  unfold mti_Right.f right
  by_cases h : l.length = 4
  · rw [if_pos (by rw [size_sb]; omega)]; simp [digits_All.f, allDig, bl_sb, h]
  · rw [if_neg (by rw [size_sb]; omega)]; simp [h]
theorem mti_Version_no (l : List UInt8) (h : right l = false) : mti_Version.f (sb l) = some (0, false) := by
  unfold mti_Version.f; rw [mti_Right, h]; simp
theorem mti_Version_yes (a b c d : UInt8) (h : right [a, b, c, d] = true) (ha : dig a = true) : mti_Version.f (sb [a, b, c, d]) = some ((a.toNat : Int) - 48, true) := by
  have := (dig_iff a).1 ha
  unfold mti_Version.f; rw [mti_Right, h, Option.bind_some, if_pos rfl, if_pos (by rw [size_sb]; simp)]
  have e : bt (sb [a, b, c, d]) 0 = (a.toNat : Int) := bt_sb _ 0
  rw [e]; congr 2; omega
theorem mti_Request (l : List UInt8) : mti_Request.f (sb l) = some (asks l) := by
  unfold mti_Request.f; rw [mti_Right, Option.bind_some]
  cases h : right l with
  | false => simp [asks, h]
  | true =>
    obtain ⟨a, b, c, d, rfl, -⟩ := four h
    rw [if_pos rfl, if_pos (by rw [size_sb]; simp)]
    have e : bt (sb [a, b, c, d]) 2 = (c.toNat : Int) := bt_sb _ 2
    rw [e]
    by_cases h1 : c.toNat = 48
    · rw [if_pos (by omega)]; simp [asks, h, h1]
    · rw [if_neg (by omega)]
      by_cases h2 : c.toNat = 50
      · simp [asks, h, h2]
      · have : ((c.toNat : Int) == 50) = false := by simp; omega
        rw [this]; simp [asks, h, h1, h2]
theorem mti_With_no (l : List UInt8) (v : Int) (h : right l = false ∨ v < 0 ∨ 9 < v) : mti_With.f (sb l) v = some (sb [], false) := by
  unfold mti_With.f; rw [mti_Right, Option.bind_some]
  cases hr : right l with
  | false => simp [empty_sb]
  | true =>
    rw [if_pos rfl]
    by_cases h1 : v < 0
    · rw [if_pos h1]; rfl
    · have : v > 9 := by rcases h with h | h | h; (rw [hr] at h; cases h); omega; omega
      rw [if_neg h1, if_pos this]; rfl
theorem mti_With_yes (a b c d : UInt8) (v : Nat) (h : right [a, b, c, d] = true) (hv : v ≤ 9) : mti_With.f (sb [a, b, c, d]) (v : Int) = some (sb [u8 (48 + v), b, c, d], true) := by
  unfold mti_With.f; rw [mti_Right, h, Option.bind_some, if_pos rfl, if_neg (by omega), if_neg (by omega)]
  have e : (48 + (v : Int) % 256) % 256 = ((48 + v : Nat) : Int) := by omega
  rw [e]
  simp only [Option.bind_some]
  have e5 : strOfNums [((48 + v : Nat) : Int)] = sb [u8 (48 + v)] := strOne _
  rw [if_pos (by rw [size_sb]; simp), e5, size_sb, sb_extract, size_sb, size_sb, if_pos (by simp), sb_append]; rfl
theorem mti_Response_no (l : List UInt8) (h : asks l = false) : mti_Response.f (sb l) = some (sb [], false) := by
  unfold mti_Response.f; rw [mti_Request, h]; rfl
theorem asks_four {l : List UInt8} (h : asks l = true) : ∃ a b c d, l = [a, b, c, d] ∧ right l = true ∧ dig a = true ∧ dig b = true ∧ dig d = true ∧ (c.toNat = 48 ∨ c.toNat = 50) := by
  simp only [asks, Bool.and_eq_true, Bool.or_eq_true, decide_eq_true_eq] at h
  obtain ⟨a, b, c, d, rfl, ha, hb, hc, hd⟩ := four h.1
  exact ⟨a, b, c, d, rfl, h.1, ha, hb, hd, h.2⟩
theorem mti_Response_yes (a b c d : UInt8) (h : asks [a, b, c, d] = true) : mti_Response.f (sb [a, b, c, d]) = some (sb [a, b, u8 (c.toNat + 1), d], true) := by
  obtain ⟨a', b', c', d', e, hr, ha, hb, hd, hc⟩ := asks_four h
  injection e with e1 e; injection e with e2 e; injection e with e3 e; injection e with e4 e
  subst e1 e2 e3 e4
  unfold mti_Response.f; rw [mti_Request, h, Option.bind_some, if_pos rfl, if_pos (by decide), if_pos (by rw [size_sb]; simp), if_pos (by rw [size_sb]; simp)]
  have eb : bt (sb [a, b, c, d]) 2 = (c.toNat : Int) := bt_sb _ 2
  have e : ((c.toNat : Int) + 1) % 256 = ((c.toNat + 1 : Nat) : Int) := by omega
  rw [eb, e]
  simp only [Option.bind_some]
  have e5 : strOfNums [((c.toNat + 1 : Nat) : Int)] = sb [u8 (c.toNat + 1)] := strOne _
  rw [e5, sb_extract, sb_append, if_pos (by rw [size_sb, size_sb]; simp), if_pos (by rw [size_sb]; simp), sb_extract, sb_append, if_pos (by rw [size_sb, size_sb, size_sb]; simp)]
  rw [size_sb]; rfl
theorem inc_dig (c : UInt8) (h : c.toNat = 48 ∨ c.toNat = 50) : (u8 (c.toNat + 1)).toNat = c.toNat + 1 := u8_toNat _ (by omega)
end Go.Proofs.Ytncchgjoikeenaa.Sp
