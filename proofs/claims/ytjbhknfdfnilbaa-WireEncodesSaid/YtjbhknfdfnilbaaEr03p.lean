/- What the reference's Put on packed digits answers. -/
import Derived.Test.YtjbhknfdfnilbaaQ03
import Derived.Test.YtjbhknfdfnilbaaNgb
import Derived.Test.YtjbhknfdfnilbaaXgh
namespace Go.Proofs.Ytjbhknfdfnilbaa.Xe
open Go Go.RowKit Go.Proofs.Ytjbhknfdfnilbaa.Sp
set_option linter.unusedVariables false
set_option linter.unusedSimpArgs false
set_option maxRecDepth 100000
theorem packQ : ∀ l : List UInt8, Sq.pack l = pack l
  | [] => rfl
  | [a] => rfl
  | a :: b :: m => by
    rw [Sq.pack, pack, packQ m]; rfl
theorem bcdPutQ (l : List UInt8) : Sq.bcdPut l = bcdPut l := by
  unfold Sq.bcdPut bcdPut
  have e : Sq.even0 l = even0 l := rfl
  rw [e, packQ]; rfl
@[reducible] def groatref03_Put.sg : List Shp := [.v (.str)]
@[reducible] def groatref03_Put.rs : Rs := .tup [.v (.str), .v (.bool)]
def groatref03_Put.f (s : ByteArray) : Option (ByteArray × Bool) := if s.size ≤ 140737488351232 then some (sb (bcdPut (bl s)).1, (bcdPut (bl s)).2) else none
theorem groatref03_Put (l : List UInt8) (hl : l.length ≤ 140737488351232) : groatref03_Put.f (sb l) = some (sb (bcdPut l).1, (bcdPut l).2) := if_pos (by rw [size_sb]; exact hl)
noncomputable def groatref03_Put.c : Con := ⟨40, groatref03_Put.sg, groatref03_Put.rs, groatref03_Put.f⟩
theorem groatref03_Put.con : ConOk Try.prog groatref03_Put.c := ⟨⟨_, Try.func40, by kernel_rfl, by kernel_rfl⟩, fun (x : ByteArray) y h σ w vs hf hr => by
  have h : groatref03_Put.f x = some y := h
  obtain ⟨v, rfl, hv⟩ : ∃ v, vs = [v] ∧ [v] = [Value.string x] := hr
  obtain rfl := (List.cons.inj hv).1
  obtain ⟨l, rfl⟩ := ex_sb x
  unfold groatref03_Put.f at h
  split at h
  · rename_i hc
    rw [size_sb] at hc
    have h : (sb (bcdPut l).1, (bcdPut l).2) = y := Option.some.inj h
    have hp := Sq.ref03_Put l hc (l.length + 1011) (by omega)
    rw [bcdPutQ] at hp
    refine (P.groatref03_Put.calls _ _ _ _ w hp).mono ?_
    rintro e w' ⟨rfl, hb⟩
    refine ⟨_, σ, rfl, ⟨hb, fun _ _ h => h, fun _ _ h => .inl h, fun b o h => Nat.lt_of_lt_of_le (hf b o h) hb.size⟩, ?_⟩
    rw [← h]
    exact ⟨_, rfl, _, _, rfl, rfl, _, rfl, rfl⟩
  · cases h⟩
end Go.Proofs.Ytjbhknfdfnilbaa.Xe
