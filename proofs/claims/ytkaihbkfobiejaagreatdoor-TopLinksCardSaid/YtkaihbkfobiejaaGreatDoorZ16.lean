import Derived.Test.YtkaihbkfobiejaaGreatDoorZ6
import Derived.Lib.Builder
import Derived.Lib.AppendStr
import Derived.Lib.UnsafeStr
import Derived.Lib.Walk
import Derived.Lib.Strings
import Derived.Laws.Externs
import Derived.Shelf.RegionOpenPlain
import Derived.Laws.IdiomCopy
import Derived.Laws.BitsLemmas
namespace Go.Proofs.YtkaihbkfobiejaaGreatDoor.Xe
open Go Go.RowKit
set_option linter.unusedVariables false
theorem bldSize : (Tryz.prog.info? 98).map (·.size) = some 2 := by kernel_rfl
theorem bldLies : liesAt Tryz.prog Tryz.prog.depth 98 (2 / Tryz.prog.cellsOf 98) 0 98 1 = true := by kernel_rfl
theorem byteInfo : (Tryz.prog.info? 5).map (fun i => (i.zero, i.size, i.bytes)) = some (some (.int .u8 0), 1, 1) := by kernel_rfl
theorem byteCells1 : Tryz.prog.cellsOf 5 = 1 := by kernel_rfl
set_option maxHeartbeats 2000000 in
set_option maxRecDepth 100000 in
theorem copyCheck_used (b : Nat) (w : World) (h0 : w.cell? ⟨b, 0, none⟩ = some (.pointer (some ⟨b, 0, none⟩))) :
  Calls Tryz.prog 82 #[.pointer (some ⟨b, 0, none⟩)] w fun e w' => e = .returned (.tuple #[]) ∧ w' = w := by
 obtain ⟨j, hj, _⟩ := Option.map_eq_some_iff.1 bldSize
 go_enter Tryz.func82, Tryz.ntmps82
 go_wp2
 rw [Lib.run_neq_ptr_same w _ Tryz.underlying95 hj]
 go_wp2
 go_end0
 exact ⟨rfl, rfl⟩
set_option maxHeartbeats 2000000 in
set_option maxRecDepth 100000 in
theorem copyCheck_fresh (b : Nat) (w : World) (h0 : w.cell? ⟨b, 0, none⟩ = some (.pointer none)) (hsh : w.shape? b = some (98, 2)) (hfz : w.frozen? ⟨b, 0, none⟩ = false) :
  Calls Tryz.prog 82 #[.pointer (some ⟨b, 0, none⟩)] w fun e w' => e = .returned (.tuple #[]) ∧ w' = w.setCell ⟨b, 0, none⟩ (.pointer (some ⟨b, 0, none⟩)) := by
 obtain ⟨j, hj, hjs⟩ := Option.map_eq_some_iff.1 bldSize
 go_enter Tryz.func82, Tryz.ntmps82
 go_wp2
 rw [Lib.run_to_unsafe w ⟨b, 0, none⟩ Tryz.underlying95 Tryz.underlying215 hj (by rw [hjs]; decide) hsh (Nat.zero_lt_succ 1)]
 simp only [Result.andThen]
 rw [Oper.upon_value]
 go_wp2
 rw [run_callFunc_extern Tryz.func120 (by kernel_rfl) (by kernel_rfl) (by kernel_rfl) (e := Extern.AbiNoEscape.same) (by kernel_rfl)]
 rw [Lib.run_noEscape]
 simp only [Result.andThen]
 rw [Oper.upon_value]
 go_wp2
 rw [Lib.run_from_unsafe w ⟨b, 0, none⟩ Tryz.underlying215 Tryz.underlying95 hj hsh bldLies]
 simp only [Result.andThen]
 rw [Oper.upon_value]
 go_wp2
 go_end0
 exact ⟨rfl, rfl⟩
theorem append_str {P : Program} {w : World} {base : Nat} {t u ty e : TypeId} {i : TypeInfo} (ht : P.underlying t = some (.slice e)) (hu : P.underlying u = some .string) (hi : P.info? e = some i) (hz : i.zero = some (.int .u8 0)) (hsize : i.size = 1) (hby : i.bytes = 1)
  {v : Value} {n : Nat} {xs : List Value} (hown : w.ownsRow base e 1 v n xs) (s : ByteArray) (h63 : n + s.size ≤ maxLen) (hbytes : n + s.size ≤ 140737488355328) (hbase : base ≤ w.heap.size) :
  ∃ v' w', (Builtin.append_ #[t, u] ty #[v, .string s]).run P w = .ok v' w' ∧ w'.ownsRow base e 1 v' (n + s.size) (xs ++ Lib.strCells s) ∧ w.grownBy w' v.ownBlock ∧
   ((v'.ownBlock = some w.heap.size ∧ w.heap.size < w'.heap.size ∧ ∀ k, k < w.heap.size → w'.heap[k]? = w.heap[k]?) ∨ v'.ownBlock = v.ownBlock) := by
 obtain ⟨v', w', hr, h2, h3, h4⟩ := Lib.run_append_own_string (P := P) w base t u ty e i ht hu hi hz hsize hby v n xs hown s h63 hbytes hbase
 refine ⟨v', w', hr, h2, h3, ?_⟩
 have hsmall : n + s.size ≤ 9223372036854775807 := by simp only [maxLen] at h63; omega
 have fresh : ∀ (cap : Nat) (cs : Array Value), (Builtin.append_ #[t, u] ty #[v, .string s]).run P w = .ok (.slice (some ⟨w.heap.size, 0, none⟩) (n + s.size) cap) (w.drew.alloc (.cells cs e)) → v'.ownBlock = some w.heap.size ∧ w.heap.size < w'.heap.size ∧ ∀ k, k < w.heap.size → w'.heap[k]? = w.heap[k]? := fun cap cs h => by
  rw [hr] at h
  simp only [Result.ok.injEq] at h
  obtain ⟨rfl, rfl⟩ := h
  exact ⟨rfl, by simp, fun k hk => heap_alloc_old w.drew _ hk⟩
 rcases hown.2 with ⟨rfl, rfl⟩ | ⟨g, cap, cur, rfl, hbg, hg, hnc, hcm, hcs, htake⟩
 ·by_cases hm : s.size = 0
  ·right; rw [(h4).2 ⟨rfl, hm⟩]
  ·left
   have hq := run_append_nil_string (P := P) w t u ty e i (.int .u8 0) ht hu hi hz s (by omega) (by omega) (by rw [hby]; omega)
   exact fresh _ _ (by rw [Nat.zero_add]; exact hq)
 ·by_cases hroom : n + s.size ≤ cap
  ·right
   have hcs' : cur.size = cap := by simpa using hcs
   have hq := Lib.run_append_room_string (P := P) w t u ty e i ht hu hi hsize g n cap cur hg s hroom (by omega)
   rw [hr] at hq
   simp only [Result.ok.injEq] at hq
   rw [hq.1]; rfl
  ·left
   have hq := Lib.run_append_grow_string (P := P) w t u ty e i (.int .u8 0) ht hu hi hz ⟨g, 0, none⟩ n cap xs (by rw [hsize]; simpa using hown.1) (hown.cells (g := g) rfl) s (by omega) (by omega) (by rw [hby]; exact growslice_fits (by omega) (by omega))
   exact fresh _ _ hq
theorem wpList_append_str {P : Program} {w : World} {ops : Array Oper} {rest : List Oper} {o : Oper} {a : Act} {Q : Exit → Act → World → Prop} (hgd : o.guard = none) (sl x : Operand) (t u : TypeId)
  (ho : o.op = .call { callee := .builtin .append, args := #[sl, x], argTypes := #[t, u] }) (base : Nat) (e : TypeId) (i : TypeInfo) (ht : P.underlying t = some (.slice e)) (hu : P.underlying u = some .string) (hi : P.info? e = some i) (hz : i.zero = some (.int .u8 0))
  (hsize : i.size = 1) (hby : i.bytes = 1) (v : Value) (n : Nat) (xs : List Value) (hs : a.eval sl = v) (hown : w.ownsRow base e 1 v n xs) (s : ByteArray) (hx : a.eval x = .string s) (h63 : n + s.size ≤ maxLen) (hbytes : n + s.size ≤ 140737488355328) (hbase : base ≤ w.heap.size)
  (h : ∀ v' w', w'.ownsRow base e 1 v' (n + s.size) (xs ++ Lib.strCells s) → w.grownBy w' v.ownBlock → ((v'.ownBlock = some w.heap.size ∧ w.heap.size < w'.heap.size ∧ ∀ k, k < w.heap.size → w'.heap[k]? = w.heap[k]?) ∨ v'.ownBlock = v.ownBlock) → wpList P ops Q rest (a.put o.dst v') w') : wpList P ops Q (o :: rest) a w := by
 refine wpList_plain hgd fun K hK => ?_
 obtain ⟨v', w', hr, h2, h3, h4⟩ := append_str (ty := o.type) ht hu hi hz hsize hby hown s h63 hbytes hbase
 unfold Oper.wp execOp
 simp only [ho, resolve, invoke, builtin, Sem.run_bind, Sem.run_pure, Result.andThen_ok, List.map_toArray, List.map_cons, List.map_nil, hs, hx, hr]
 exact hK _ _ (h v' w' h2 h3 h4)
def Wrote (base b : Nat) (v : Value) (bs : List Value) (w w' : World) : Prop :=
 ∃ v', w'.heap[b]? = some (.cells #[.pointer (some ⟨b, 0, none⟩), v'] 98 (0, 0)) ∧ w'.ownsRow base 5 1 v' bs.length bs ∧ w'.os = w.os ∧ w'.tape = w.tape ∧ w'.output = w.output ∧ w.heap.size ≤ w'.heap.size ∧
  (∀ k, k < w.heap.size → k ≠ b → some k ≠ v.ownBlock → w'.heap[k]? = w.heap[k]?) ∧
  ((v'.ownBlock = some w.heap.size ∧ w.heap.size < w'.heap.size ∧ ∀ k, k < w.heap.size → k ≠ b → w'.heap[k]? = w.heap[k]?) ∨ v'.ownBlock = v.ownBlock)
set_option maxHeartbeats 4000000 in
set_option maxRecDepth 100000 in
theorem writeString (base b : Nat) (p v : Value) (bs : List Value) (s : ByteArray) (w : World) (hb : w.heap[b]? = some (.cells #[p, v] 98 (0, 0))) (hp : p = .pointer none ∨ p = .pointer (some ⟨b, 0, none⟩))
  (hown : w.ownsRow base 5 1 v bs.length bs) (hlen : bs.length + s.size ≤ 140737488355328) (hbase : base ≤ w.heap.size) :
  Calls Tryz.prog 38 #[.pointer (some ⟨b, 0, none⟩), .string s] w fun e w' => e = .returned (.tuple #[.int .i64 s.size, .nilIface]) ∧ Wrote base b v (bs ++ Lib.strCells s) w w' := by
 obtain ⟨i0, hi, hz0, hz1, hz2⟩ := info_parts byteInfo
 have hlt : b < w.heap.size := by
  rcases Nat.lt_or_ge b w.heap.size with h' | h'
  ·exact h'
  ·simp [Array.getElem?_eq_none h'] at hb
 have hne : v.ownBlock ≠ some b := Lib.ownBlock_ne hown hb (by decide)
 have check : Calls Tryz.prog 82 #[.pointer (some ⟨b, 0, none⟩)] w fun e w' => e = .returned (.tuple #[]) ∧ w'.heap[b]? = some (.cells #[.pointer (some ⟨b, 0, none⟩), v] 98 (0, 0)) ∧ w'.heap.size = w.heap.size ∧ w'.os = w.os ∧ w'.tape = w.tape ∧ w'.output = w.output ∧ ∀ k, k ≠ b → w'.heap[k]? = w.heap[k]? := by
  rcases hp with rfl | rfl
  ·refine (copyCheck_fresh b w (by rw [Lib.cell_of_heap hb]; rfl) (by simp [World.shape?, hb]) (by simp [World.frozen?, hb])).mono ?_
   rintro e w' ⟨rfl, rfl⟩
   refine ⟨rfl, by simp [World.setCell, Array.getElem?_modify, hb], by simp [World.setCell], rfl, rfl, rfl, fun k hk => Below.heap_setCell _ _ _ _ (fun e => hk (by simp [e]))⟩
  ·refine (copyCheck_used b w (by rw [Lib.cell_of_heap hb]; rfl)).mono ?_
   rintro e w' ⟨rfl, rfl⟩
   exact ⟨rfl, hb, rfl, rfl, rfl, rfl, fun _ _ => rfl⟩
 have e240 : ∀ args w, (callFunc 82 args).run Tryz.prog w = .ok (.enter 82 args) w := fun args w => run_callFunc ⟨_, Tryz.func82, by kernel_rfl, by kernel_rfl⟩ args w
 go_enter Tryz.func38, Tryz.ntmps38
 go_wp2_with (go_at_call 82; refine check.mono ?_)
 rintro e w1 ⟨rfl, hbk, hs1, ho1, ht1, hu1, hk1⟩
 have hown1 : w1.ownsRow base 5 1 v bs.length bs := hown.kept (row := some b) ⟨ho1, ht1, hu1, by omega, fun k _ hk => hk1 k (fun e => hk (by rw [e]))⟩ (Or.inr hne)
 have c0 : w1.cell? ⟨b, 0, none⟩ = some (.pointer (some ⟨b, 0, none⟩)) := by rw [Lib.cell_of_heap hbk]; rfl
 have c1 : w1.cell? ⟨b, 1, none⟩ = some v := by rw [Lib.cell_of_heap hbk]; rfl
 go_wp2_with (at_builtin; refine wpList_append_str rfl _ _ 96 9 rfl base 5 i0 Tryz.underlying96 Tryz.underlying9 hi hz0 hz1 hz2 _ _ _ rfl hown1 s rfl ?c3 ?c4 ?c5 ?_)
 case c3 => unfold maxLen; omega
 case c4 => omega
 case c5 => omega
 intro v' w2 hown' hgrow hnew
 have hb2 : w2.heap[b]? = some (.cells #[.pointer (some ⟨b, 0, none⟩), v] 98 (0, 0)) := by
  rw [hgrow.block b (by omega) (fun e => hne e.symm)]
  exact hbk
 have d0 : w2.cell? ⟨b, 0, none⟩ = some (.pointer (some ⟨b, 0, none⟩)) := by rw [Lib.cell_of_heap hb2]; rfl
 have d1 : w2.cell? ⟨b, 1, none⟩ = some v := by rw [Lib.cell_of_heap hb2]; rfl
 have f1 : w2.frozen? ⟨b, 1, none⟩ = false := Lib.frozen_of_heap hb2 1
 obtain ⟨ao, n', cap, rfl⟩ : ∃ ao n' cap, v' = .slice ao n' cap := by
  rcases hown'.2 with ⟨hv, _⟩ | ⟨g, cap, cur, hv, _⟩
  ·exact ⟨_, _, _, hv⟩
  ·exact ⟨_, _, _, hv⟩
 have hne2 : (Value.slice ao n' cap).ownBlock ≠ some b := Lib.ownBlock_ne hown' hb2 (by decide)
 go_wp2
 go_ret2
 refine ⟨rfl, .slice ao n' cap, by simp [World.setCell, Array.getElem?_modify, hb2], ?_, hgrow.os.trans ho1, hgrow.tape.trans ht1, hgrow.output.trans hu1, ?_, fun k hk hkb hkv => ?_, ?_⟩
 ·rw [List.length_append, Lib.strCells_length]
  exact hown'.kept (row := some b) ⟨rfl, rfl, rfl, by simp [World.setCell], fun k _ hk => Below.heap_setCell _ _ _ _ (fun e => hk (by simp [e]))⟩ (Or.inr hne2)
 ·have := hgrow.size; simp [World.setCell]; omega
 ·rw [Below.heap_setCell _ _ _ _ (fun e => hkb (by simp [e])), hgrow.block k (by omega) hkv, hk1 k hkb]
 ·rcases hnew with ⟨q1, q2, q3⟩ | q1
  ·left
   refine ⟨by first | exact q1 | rw [q1, hs1], by simp [World.setCell]; omega, fun k hk hkb => ?_⟩
   rw [Below.heap_setCell _ _ _ _ (fun e => hkb (by simp [e])), q3 k (by omega), hk1 k hkb]
  ·exact .inr q1
set_option maxHeartbeats 4000000 in
set_option maxRecDepth 100000 in
theorem encodePut (base b : Nat) (p v : Value) (bs : List Value) (s : ByteArray) (w : World) (hb : w.heap[b]? = some (.cells #[p, v] 98 (0, 0))) (hp : p = .pointer none ∨ p = .pointer (some ⟨b, 0, none⟩))
  (hown : w.ownsRow base 5 1 v bs.length bs) (hlen : bs.length + s.size ≤ 140737488355328) (hbase : base ≤ w.heap.size) :
  Calls Tryz.prog 37 #[.string s, .pointer (some ⟨b, 0, none⟩)] w fun e w' => e = .returned (.tuple #[]) ∧ Wrote base b v (bs ++ Lib.strCells s) w w' := by
 have write := writeString base b p v bs s w hb hp hown hlen hbase
 have e240 : ∀ args w, (callFunc 38 args).run Tryz.prog w = .ok (.enter 38 args) w := fun args w => run_callFunc ⟨_, Tryz.func38, by kernel_rfl, by kernel_rfl⟩ args w
 go_enter Tryz.func37, Tryz.ntmps37
 go_wp2_with (go_at_call 38; refine write.mono ?_)
 rintro e w1 ⟨rfl, hw⟩
 go_wp2
 go_end0
 exact ⟨rfl, hw⟩
structure Looked (ow : Option Nat) (w w' : World) : Prop where
 os : w'.os = w.os
 tape : w'.tape = w.tape
 output : w'.output = w.output
 size : w.heap.size ≤ w'.heap.size
 block : ∀ k, k < w.heap.size → some k ≠ ow → w'.heap[k]? = w.heap[k]?
 cell : ∀ k o, k < w.heap.size → w'.cell? ⟨k, o, none⟩ = w.cell? ⟨k, o, none⟩
theorem Looked.drew (ow : Option Nat) (w : World) : Looked ow w w.drew := ⟨rfl, rfl, rfl, Nat.le_refl _, fun _ _ _ => rfl, fun _ _ _ => rfl⟩
theorem Looked.view (ow : Option Nat) (w : World) (o : Obj) : Looked ow w (w.drew.alloc o) :=
 ⟨rfl, rfl, rfl, by simp, fun k hk _ => heap_alloc_old w.drew o hk, fun k o' hk => World.cell?_of_block (heap_alloc_old w.drew o hk)⟩
theorem Looked.frozen (g n : Nat) (w : World) : Looked (some g) w (w.drew.freeze ⟨g, 0, none⟩ n) := by
 unfold World.freeze
 split
 ·exact Looked.drew _ w
 ·refine ⟨rfl, rfl, rfl, by simp, fun k hk hne => ?_, fun k o hk => ?_⟩
  ·simp only [Array.getElem?_modify]
   rw [if_neg (fun e => hne (by rw [e]))]; rfl
  ·simp only [World.cell?, Array.getElem?_modify]
   by_cases hg : g = k
   ·rw [if_pos hg]
    have e0 : w.drew.heap[k]? = w.heap[k]? := rfl
    rw [e0]
    cases w.heap[k]? with
    | none => rfl
    | some ob => cases ob <;> rfl
   ·rw [if_neg hg]; rfl
set_option maxHeartbeats 4000000 in
set_option maxRecDepth 100000 in
theorem builderString (base b : Nat) (p v : Value) (l : List UInt8) (w : World) (hb : w.heap[b]? = some (.cells #[p, v] 98 (0, 0))) (hown : w.ownsRow base 5 1 v l.length (Lib.byteCells l)) :
  Calls Tryz.prog 42 #[.pointer (some ⟨b, 0, none⟩)] w fun e w' => e = .returned (.string ⟨l.toArray⟩) ∧ Looked v.ownBlock w w' := by
 have hlt : b < w.heap.size := by
  rcases Nat.lt_or_ge b w.heap.size with h' | h'
  ·exact h'
  ·simp [Array.getElem?_eq_none h'] at hb
 have mixed := mixed
 have one : ∀ (v : Value) (pt : Value) (w1 : World) (rs : Value) (w2 : World), w.heap[b]? = some (.cells #[p, v] 98 (0, 0)) → (∀ n cap ao, v = .slice ao n cap → n = l.length) → (∃ ao n cap, v = .slice ao n cap) →
   (Builtin.unsafeSliceData_ #[96] 177 #[v]).run Tryz.prog w.drew = .ok pt w1 → w1.cell? ⟨b, 1, none⟩ = some v → (Builtin.unsafeString_ #[177, 3] 9 #[pt, .int .i64 l.length]).run Tryz.prog w1 = .ok rs w2 → Looked v.ownBlock w w2 → rs = .string ⟨l.toArray⟩ →
   Calls Tryz.prog 42 #[.pointer (some ⟨b, 0, none⟩)] w fun e w' => e = .returned (.string ⟨l.toArray⟩) ∧ Looked v.ownBlock w w' := by
  intro v pt w1 rs w2 hb hn hv hSD c2 hUS hL hrs
  obtain ⟨ao, n, cap, rfl⟩ := hv
  obtain rfl := hn n cap ao rfl
  subst hrs
  have c1 : w.drew.cell? ⟨b, 1, none⟩ = some (.slice ao l.length cap) := by
   have : w.drew.heap[b]? = some (.cells #[p, .slice ao l.length cap] 98 (0, 0)) := hb
   rw [Lib.cell_of_heap this]; rfl
  go_enter Tryz.func42, Tryz.ntmps42
  go_wp2
  go_region_o
  all_goals (go_wp2; go_ret; exact ⟨rfl, hL⟩)
 have cd : ∀ v, w.heap[b]? = some (.cells #[p, v] 98 (0, 0)) → w.drew.cell? ⟨b, 1, none⟩ = some v := fun v h => by
  have : w.drew.heap[b]? = some (.cells #[p, v] 98 (0, 0)) := h
  rw [Lib.cell_of_heap this]; rfl
 have hU0 : ∀ (W : World) (q : Option Addr), l.length = 0 → (Builtin.unsafeString_ #[177, 3] 9 #[.pointer q, .int .i64 l.length]).run Tryz.prog W = .ok (.string .empty) W := fun W q h => by
  rw [h]; exact Lib.run_unsafeString_none W _ _ _ q
 have he : l.length = 0 → (Value.string ByteArray.empty) = .string ⟨l.toArray⟩ := fun h => by
  have := List.eq_nil_of_length_eq_zero h
  subst this; rfl
 rcases hown.2 with ⟨rfl, hl0⟩ | ⟨g, cap, cur, rfl, hbg, hg, hnc, hcm, hcs, htake⟩
 ·exact one _ _ w.drew _ w.drew hb (fun n c ao h => by injection h with _ h _; omega) ⟨_, _, _, rfl⟩ rfl (cd _ hb) (hU0 _ _ hl0) (Looked.drew _ w) (he hl0)
 ·by_cases hl0 : l.length = 0
  ·by_cases hc0 : cap = 0
   ·subst hc0
    have hgo : (w.drew.shape? (⟨g, 0, none⟩ : Addr).block) = some (5, cur.size) := by have hg' : w.drew.heap[g]? = some (.cells cur 5 (0, 0)) := hg; simp [World.shape?, hg']
    have hSD := Lib.run_unsafeSliceData_zero (P := Tryz.prog) w.drew #[96] 177 5 Tryz.underlying177 ⟨g, 0, none⟩ l.length (5, cur.size) hgo
    refine one _ _ _ _ _ hb (fun n c ao h => by injection h with _ h _; exact h.symm) ⟨_, _, _, rfl⟩ hSD ?_ (hU0 _ _ hl0) (Looked.view _ w _) (he hl0)
    have : (w.drew.alloc (.view ⟨g, 0, none⟩ 5)).heap[b]? = _ := (Lib.alloc_old w.drew _ b hlt).trans hb
    rw [Lib.cell_of_heap this]; rfl
   ·have hSD := Lib.run_unsafeSliceData_row (P := Tryz.prog) w.drew #[96] 177 ⟨g, 0, none⟩ l.length cap hc0
    exact one _ _ _ _ _ hb (fun n c ao h => by injection h with _ h _; exact h.symm) ⟨_, _, _, rfl⟩ hSD (cd _ hb) (hU0 _ _ hl0) (Looked.drew _ w) (he hl0)
  ·have hSD := Lib.run_unsafeSliceData_row (P := Tryz.prog) w.drew #[96] 177 ⟨g, 0, none⟩ l.length cap (by omega)
   have hUS := Lib.run_unsafeString_row (P := Tryz.prog) w.drew 177 3 9 5 Tryz.underlying177 byteCells1 g cur.size (by have hg' : w.drew.heap[g]? = some (.cells cur 5 (0, 0)) := hg; simp [World.shape?, hg']) l (fun h => hl0 (by rw [h]; rfl)) (by omega) (by unfold maxLen at hcm; omega) (fun j x hx => hown.cells (g := g) rfl j (.int .u8 x.toNat) (by simp [Lib.byteCells, hx]))
   exact one _ _ _ _ _ hb (fun n c ao h => by injection h with _ h _; exact h.symm) ⟨_, _, _, rfl⟩ hSD (cd _ hb) hUS (Looked.frozen g _ w) rfl
theorem byteTy_eq : byteTy Tryz.prog = 5 := by kernel_rfl
theorem strCells_ints (s : ByteArray) : Lib.strCells s = (intsOf s).map (Value.int .u8) := by
 simp [Lib.strCells, intsOf]
theorem RLs.ofInts {σ : Nat → Nat → Prop} {w : World} : ∀ (l : List Int), RLs (RE σ w (.int .u8)) (l : List (El (.int .u8))) (l.map (Value.int .u8))
 | [] => rfl
 | x :: l => ⟨[.int .u8 x], _, rfl, rfl, RLs.ofInts l⟩
theorem HR.wrote {P : Program} {w0 : World} {σ0 : Nat → Nat → Prop} {ρ : Env} {σ : Nat → Nat → Prop} {w w' : World} {bx : Nat → Option (List AV)} {al : List Bool} (h : HR P w0 σ0 ρ σ bx al w) {b β : Nat} (hφ : ρ.φ b = some β) {p v v' : Value} {T : TypeId} {l m : List Int} {old : Option Nat}
  (hold : (old = none ∧ v.ownBlock = none) ∨ ∃ i, old = some i ∧ ρ.own i = some v.ownBlock) (hlow : ∀ γ, v.ownBlock = some γ → ∀ o, σ γ o → o < l.length) (hT : byteTy P ≠ T) (hlm : ∀ x ∈ l ++ m, 0 ≤ x ∧ x < 256)
  (ho : w.ownsRow w0.heap.size (byteTy P) 1 v l.length (l.map (Value.int .u8))) (hb : w.heap[β]? = some (.cells #[p, v] T (0, 0)))
  (hb' : w'.heap[β]? = some (.cells #[.pointer (some ⟨β, 0, none⟩), v'] T (0, 0))) (ho' : w'.ownsRow w0.heap.size (byteTy P) 1 v' (l ++ m).length ((l ++ m).map (Value.int .u8)))
  (e1 : w'.os = w.os) (e2 : w'.tape = w.tape) (e3 : w'.output = w.output) (hsz : w.heap.size ≤ w'.heap.size) (hoth : ∀ k, k < w.heap.size → k ≠ β → some k ≠ v.ownBlock → w'.heap[k]? = w.heap[k]?)
  (hc : (v'.ownBlock = some w.heap.size ∧ w.heap.size < w'.heap.size ∧ ∀ k, k < w.heap.size → k ≠ β → w'.heap[k]? = w.heap[k]?) ∨ v'.ownBlock = v.ownBlock) :
  ∃ ρ' σ', Mono ρ σ w ρ' σ' w' ∧ HR P w0 σ0 ρ' σ' (fun x => if x = b then some [.bld (some al.length) T (l ++ m)] else bx x) (letFall al old ++ [true]) w' := by
 have hβ := (h.phi b β hφ).2.2.1
 have hβ' : β < w'.heap.size := by omega
 have hne : v.ownBlock ≠ some β := Lib.ownBlock_ne ho hb (fun e => hT e.symm)
 have hne' : v'.ownBlock ≠ some β := Lib.ownBlock_ne ho' hb' (fun e => hT e.symm)
 obtain ⟨wm, hwm⟩ : ∃ wm, wm = turnTo w' β (.cells #[p, v] T (0, 0)) := ⟨_, rfl⟩
 have m1 : ∀ k, k ≠ β → wm.heap[k]? = w'.heap[k]? := fun k hk => by rw [hwm]; exact turnTo_other hk
 have m2 : wm.heap[β]? = w.heap[β]? := by rw [hwm, hb]; exact turnTo_same hb'
 have m3 : wm.heap.size = w'.heap.size := by rw [hwm]; simp [turnTo]
 have m4 : wm.os = w.os ∧ wm.tape = w.tape ∧ wm.output = w.output := by rw [hwm]; exact ⟨e1, e2, e3⟩
 have hg : w.grownBy wm v.ownBlock := ⟨m4.1, m4.2.1, m4.2.2, by omega, fun k hk hkv => by
  by_cases hkb : k = β
  ·rw [hkb, m2]
  ·rw [m1 k hkb]; exact hoth k hk hkb hkv⟩
 have hom : wm.ownsRow w0.heap.size (byteTy P) 1 v' (l ++ m).length ((l ++ m).map (Value.int .u8)) := ho'.kept (row := some β) ⟨by rw [m4.1, e1], by rw [m4.2.1, e2], by rw [m4.2.2, e3], by omega, fun k _ hk => m1 k (fun e => hk (by rw [e]))⟩ (Or.inr hne')
 have hcm : (v'.ownBlock = some w.heap.size ∧ w.heap.size < wm.heap.size ∧ ∀ k, k < w.heap.size → wm.heap[k]? = w.heap[k]?) ∨ v'.ownBlock = v.ownBlock := hc.imp (fun ⟨q1, q2, q3⟩ => ⟨q1, by omega, fun k hk => by
  by_cases hkb : k = β
  ·rw [hkb, m2]
  ·rw [m1 k hkb]; exact q3 k hk hkb⟩) id
 obtain ⟨ρ', σ', k1, k2, k3⟩ := h.app (t := .int .u8) (l := (l : List (El (.int .u8)))) (m := (m : List (El (.int .u8)))) hold (fun γ e o x => by simpa [Ty.sz] using hlow γ e o x) (show w.ownsRow w0.heap.size (byteTy P) (Ty.int .u8).sz v l.length (l.map (Value.int .u8)) from ho) (RLs.ofInts l) (RLs.ofInts m) (by rw [List.length_append, List.map_append] at hom; exact hom) hg hcm
 have hφ' := k1.phi b β hφ
 have hg2 : wm.grownBy w' (some β) := ⟨by rw [m4.1, e1], by rw [m4.2.1, e2], by rw [m4.2.2, e3], by omega, fun k _ hk => (m1 k (fun e => hk (by rw [e]))).symm⟩
 have hlen : (letFall al old).length = al.length := by cases old <;> simp [letFall]
 obtain ⟨n1, n2⟩ := k2.turn hφ' hg2 (cs := [.bld (some al.length) T (l ++ m)]) fun hmm => .build _ _ _ rfl ⟨_, v', hb', .inr rfl, hlm, fun j ej => by
  obtain rfl := Option.some.inj ej
  refine ⟨by rw [k2.no, List.length_append, hlen]; exact Nat.lt_succ_self _, fun ow how => ?_⟩
  rw [← hlen] at how
  obtain ⟨t1, e, cs, t2, t3, t4⟩ := (k3.2 _ rfl).2 ow how
  exact ⟨t1, fun γ eγ o => by simpa [Ty.sz] using t4 γ eγ o, hT, ho'⟩⟩
 exact ⟨ρ', σ', k1.trans n1, n2⟩
theorem HR.looked {P : Program} {w0 : World} {σ0 : Nat → Nat → Prop} {ρ : Env} {σ : Nat → Nat → Prop} {w w' : World} {bx : Nat → Option (List AV)} {al : List Bool} (h : HR P w0 σ0 ρ σ bx al w) {i : Nat} {ow : Option Nat} (hi : ρ.own i = some ow) (k : Looked ow w w') :
  ∃ ρ', Mono ρ σ w ρ' σ w' ∧ HR P w0 σ0 ρ' σ bx (al.set i false) w' := by
 have hblk : ∀ b β, ρ.φ b = some β → w'.heap[β]? = w.heap[β]? := fun b β hb => k.block β (h.phi b β hb).2.2.1 (fun e => (h.own i β (by rw [hi, e])).2.2 b hb)
 have hm : Mono ρ σ w { ρ with own := fun j => if j = i then none else ρ.own j } σ w' := by
  refine ⟨⟨fun _ _ x => x, fun b o v hs hc => by rw [k.cell b o (h.fits b o hs)]; exact hc⟩, fun _ _ x => x, Nat.le_refl _, fun j oj hj x => ?_, rfl⟩
  change (if j = i then none else ρ.own j) = some oj at x
  split at x
  ·cases x
  ·rename_i hne
   refine ⟨x, fun β e => ⟨fun _ x => x, fun cs e' f hc => ?_⟩⟩
   subst e
   rw [k.block β (h.own j β x).2.1 (fun e => hne (h.ownj j i β x (by rw [hi, e])))]; exact hc
 refine ⟨_, hm, ⟨h.below.trans ⟨k.os, k.tape, k.output, k.size, fun b hb => k.block b (Nat.lt_of_lt_of_le hb h.size) (fun e => ?_)⟩, fun b o x => Nat.lt_of_lt_of_le (h.fits b o x) k.size, h.sub, h.old, fun b cs x => ?_, fun b β x => ?_, h.inj, fun j β x => ?_, fun j j' β x y => ?_, fun j oj x => ?_, ?_, fun j x => ?_, fun β x => ⟨Nat.lt_of_lt_of_le (h.frz β x).1 k.size, (k.block β (h.frz β x).1 (fun e => h.fro i β (by rw [hi, e]) x)).trans (h.frz β x).2.1, (h.frz β x).2.2⟩, h.frφ, fun j β x => ?_, h.pin⟩⟩
 ·have := (h.own i b (by rw [hi, e])).1; omega
 ·obtain ⟨β, q1, q2⟩ := h.box b cs x
  exact ⟨β, q1, q2.mono hm (hblk b β q1)⟩
 ·obtain ⟨q1, q2, q3, q4⟩ := h.phi b β x
  exact ⟨q1, q2, Nat.lt_of_lt_of_le q3 k.size, q4⟩
 ·change (if j = i then none else ρ.own j) = some (some β) at x
  split at x
  ·cases x
  ·obtain ⟨q1, q2, q3⟩ := h.own j β x
   exact ⟨q1, Nat.lt_of_lt_of_le q2 k.size, q3⟩
 ·change (if j = i then none else ρ.own j) = some (some β) at x
  change (if j' = i then none else ρ.own j') = some (some β) at y
  split at x
  ·cases x
  ·split at y
   ·cases y
   ·exact h.ownj j j' β x y
 ·change (if j = i then none else ρ.own j) = some oj at x
  rw [List.length_set]
  split at x
  ·cases x
  ·exact h.lim j oj x
 ·rw [List.length_set]; exact h.no
 ·rw [List.getElem?_set] at x
  show ∃ ow, (if j = i then none else ρ.own j) = some ow
  by_cases hji : i = j
  ·rw [if_pos hji] at x
   split at x <;> simp at x
  ·rw [if_neg hji] at x
   rw [if_neg (fun e => hji e.symm)]
   exact h.alive j x
 ·change (if j = i then none else ρ.own j) = some (some β) at x
  split at x
  ·cases x
  ·exact h.fro j β x
theorem encodePut_ok : ConSOk Tryz.prog (bldW 37 98) := by
 refine ⟨⟨_, Tryz.func37, by kernel_rfl, by kernel_rfl⟩, fun {w0 σ0 ρ σ w s ar vs t y g} hrun hra hH => ?_⟩
 have hTb : byteTy Tryz.prog ≠ 98 := by rw [byteTy_eq]; decide
 unfold bldW at hrun
 simp only at hrun
 split at hrun
 ·rename_i z b
  obtain ⟨v1, q1, e1, g1, v2, q2, e2, g2, e3⟩ := hra
  subst e3; subst e2; subst e1
  have g1 : v1 = .string z := g1
  subst g1
  obtain ⟨β, hφ, ev⟩ := g2
  subst ev
  have fin : ∀ {p v : Value} {l : List Int} {old : Option Nat} {l' : List Int}, lcat 1 (l : List Int) (intsOf z) = some l' → w.heap[β]? = some (.cells #[p, v] 98 (0, 0)) → (p = .pointer none ∨ p = .pointer (some ⟨β, 0, none⟩)) →
    ((old = none ∧ v.ownBlock = none) ∨ ∃ i, old = some i ∧ ρ.own i = some v.ownBlock) → (∀ x ∈ l, 0 ≤ x ∧ x < 256) → (∀ γ, v.ownBlock = some γ → ∀ o, σ γ o → o < l.length) → w.ownsRow w0.heap.size (byteTy Tryz.prog) 1 v l.length (l.map (Value.int .u8)) →
    Calls Tryz.prog 37 #[.string z, .pointer (some ⟨β, 0, none⟩)] w fun e w' => ∃ v ρ' σ', e = .returned v ∧ RA ρ' w0.heap.size σ' w' (.tup []) v ∧ Mono ρ σ w ρ' σ' w' ∧ HR Tryz.prog w0 σ0 ρ' σ' (fun x => (s.boxes.set b [.bld (some s.alive.length) 98 l'])[x]?) (letFall s.alive old ++ [true]) w' := by
   intro p v l old l' hl' hb hp hold hli hlow hown
   unfold lcat at hl'
   split at hl'
   ·rename_i hle
    obtain rfl := Option.some.inj hl'
    have hzl : (intsOf z).length = z.size := by simp [intsOf]
    have hl1 : (l.map (Value.int .u8)).length = l.length := by simp
    refine (encodePut w0.heap.size β p v (l.map (Value.int .u8)) z w hb hp (by rw [hl1, ← byteTy_eq]; exact hown) (by rw [hl1]; omega) hH.size).mono ?_
    rintro e w' ⟨rfl, v', hb', ho', q1, q2, q3, q4, q5, q6⟩
    rw [strCells_ints, ← List.map_append, ← byteTy_eq, List.length_map] at ho'
    have hbx : b < s.boxes.length := by
     have := (hH.phi b β hφ).1
     rcases Nat.lt_or_ge b s.boxes.length with hh | hh
     ·exact hh
     ·rw [List.getElem?_eq_none hh] at this; cases this
    obtain ⟨ρ', σ', k1, k2⟩ := hH.wrote hφ hold hlow hTb (fun x hx => (List.mem_append.1 hx).elim (hli x) fun hx => by obtain ⟨c, _, rfl⟩ := List.mem_map.1 hx; have := c.toNat_lt; omega) hown hb hb' ho' q1 q2 q3 q4 q5 q6
    exact ⟨_, ρ', σ', rfl, ⟨#[], rfl, rfl⟩, k1, k2.congr fun x => boxes_set _ hbx _ x⟩
   ·cases hl'
  split at hrun
  ·rename_i e0 hb
   split at hrun
   ·rename_i he
    have he : e0 = 98 := by simpa using he
    subst he
    simp only [Option.some.injEq, Sigma.mk.injEq] at hrun
    obtain ⟨rfl, hrun⟩ := hrun
    simp only [heq_eq_eq, Prod.mk.injEq] at hrun
    obtain ⟨hl', rfl⟩ := hrun
    obtain ⟨β', h1', hbx⟩ := hH.box b _ hb
    rw [hφ] at h1'
    obtain rfl := Option.some.inj h1'
    exact fin (l := []) (old := none) hl' hbx.new (.inl rfl) (.inl ⟨rfl, rfl⟩) (fun x hx => by cases hx) (fun γ e => by cases e) (World.ownsRow_nil w _ _ 1)
   ·cases hrun
  ·rename_i i e0 l hb
   split at hrun
   ·rename_i hal
    obtain ⟨he, hal⟩ := hal
    have he : e0 = 98 := by simpa using he
    subst he
    simp only [Option.some.injEq, Sigma.mk.injEq] at hrun
    obtain ⟨rfl, hrun⟩ := hrun
    simp only [heq_eq_eq, Prod.mk.injEq] at hrun
    obtain ⟨hl', rfl⟩ := hrun
    obtain ⟨β', h1', hbx⟩ := hH.box b _ hb
    rw [hφ] at h1'
    obtain rfl := Option.some.inj h1'
    obtain ⟨p, v, h1, h2, h5, h3⟩ := hbx.bld
    obtain ⟨ow, how⟩ := hH.alive i hal
    obtain ⟨k1, k2, k3, k4⟩ := (h3 i rfl).2 ow how
    subst k1
    exact fin (l := l) (old := some i) hl' h1 h2 (.inr ⟨i, rfl, how⟩) h5 (fun γ e o x => (k2 γ e o).1 x) k4
   ·cases hrun
  ·cases hrun
 ·cases hrun
theorem builderString_ok : ConSOk Tryz.prog (bldS 42 98) := by
 refine ⟨⟨_, Tryz.func42, by kernel_rfl, by kernel_rfl⟩, fun {w0 σ0 ρ σ w s ar vs t y g} hrun hra hH => ?_⟩
 unfold bldS at hrun
 simp only at hrun
 split at hrun
 ·rename_i b
  obtain ⟨v1, q1, e1, g1, e3⟩ := hra
  subst e3; subst e1
  obtain ⟨β, hφ, ev⟩ := g1
  subst ev
  split at hrun
  ·rename_i i e0 l hb
   split at hrun
   ·rename_i hal
    obtain ⟨he, hal⟩ := hal
    have he : e0 = 98 := by simpa using he
    subst he
    simp only [Option.some.injEq, Sigma.mk.injEq] at hrun
    obtain ⟨rfl, hrun⟩ := hrun
    simp only [heq_eq_eq, Prod.mk.injEq] at hrun
    obtain ⟨hl', rfl⟩ := hrun
    obtain ⟨β', h1', hbx⟩ := hH.box b _ hb
    rw [hφ] at h1'
    obtain rfl := Option.some.inj h1'
    obtain ⟨p, v, h1, h2, h5, h3⟩ := hbx.bld
    obtain ⟨ow, how⟩ := hH.alive i hal
    obtain ⟨k1, k2, k3, k4⟩ := (h3 i rfl).2 ow how
    rw [byteTy_eq] at k4
    obtain ⟨z, hz⟩ : ∃ z : List UInt8, z = l.map fun n => UInt8.ofNat n.toNat := ⟨_, rfl⟩
    have hzc : Lib.byteCells z = l.map (Value.int .u8) := by
     rw [hz]
     simp only [Lib.byteCells, List.map_map]
     apply List.map_congr_left
     intro x hx
     have := h5 x hx
     simp only [Function.comp_apply, UInt8.toNat_ofNat']
     congr 1
     omega
    have hzl : z.length = l.length := by rw [hz, List.length_map]
    refine (builderString w0.heap.size β p v z w h1 (by rw [hzl, hzc]; exact k4)).mono ?_
    rintro e w' ⟨rfl, hL⟩
    obtain ⟨ρ', m1, m2⟩ := hH.looked how (by rw [← k1]; exact hL)
    refine ⟨_, ρ', σ, rfl, ?_, m1, m2⟩
    show Value.string _ = Value.string _
    rw [hz]; rfl
   ·cases hrun
  ·cases hrun
 ·cases hrun
end Go.Proofs.YtkaihbkfobiejaaGreatDoor.Xe
