import Derived.Orders
import Derived.Laws.Entries
import Derived.Below
import Derived.Maps.AppendAt
import Derived.Laws.MakeOwn
import Derived.Laws.StructEq
import Derived.Laws.BytesString
import Derived.Laws.BytesArg
import Derived.WalkKit
import Derived.Laws.Slices
namespace Go.Proofs.YtkaihbkfobiejaaGreatDoor.Xe
open Go
inductive Ty where
 | int (k : IntKind)
 | bool
 | str
 | unit
 | pair (a b : Ty)
 | sl (t : Ty)
@[reducible] def El : Ty → Type
 | .int _ => Int
 | .bool => Bool
 | .str => ByteArray
 | .unit => Unit
 | .pair a b => El a × El b
 | .sl t => List (El t)
def Ty.sz : Ty → Nat
 | .unit => 0
 | .pair a b => a.sz + b.sz
 | _ => 1
def Ty.same : (a b : Ty) → Option (PLift (a = b))
 | .int k, .int l => if h : k = l then some ⟨by rw [h]⟩ else none
 | .bool, .bool => some ⟨rfl⟩
 | .str, .str => some ⟨rfl⟩
 | .unit, .unit => some ⟨rfl⟩
 | .pair a b, .pair c d => match Ty.same a c, Ty.same b d with
  | some ⟨h⟩, some ⟨g⟩ => some ⟨by rw [h, g]⟩
  | _, _ => none
 | .sl a, .sl b => match Ty.same a b with
  | some ⟨h⟩ => some ⟨by rw [h]⟩
  | none => none
 | _, _ => none
inductive AV where
 | int (k : IntKind) (n : Int)
 | bool (p : Prop) (d : Decidable p)
 | str (s : ByteArray)
 | sl (own : Option Nat) (t : Ty) (l : List (El t))
 | nilsl
 | ptr (b off : Nat)
 | nilp
 | elp (t : Ty) (x : El t) (off : Nat)
 | fn (f : FuncId) (caps : List AV)
 | mp (b : Nat)
 | keys (k e : TypeId) (t : Ty) (l : List (El t))
 | itr (s : ByteArray) (pos : Nat)
 | row (t : Ty) (l : List (El t))
 | ms (b sz off len : Nat)
 | mse (b sz off : Nat)
 | emp (t : Ty)
 | bld (i : Option Nat) (T : TypeId) (l : List Int)
 | bld0 (e : TypeId)
 | agg (cs : List AV)
 | tup (cs : List AV)
 | junk
abbrev zE := Int × ByteArray
abbrev z5 := Int × Int × Int × Int × Int
abbrev zP := ByteArray × ByteArray
abbrev zR := Int × Int × Int × ByteArray × List zP
abbrev zO := Int × Int × ByteArray × Int
abbrev zdE : Ty := .pair (.int .i64) (.str)
abbrev zd5 : Ty := .pair (.int .i64) (.pair (.int .i64) (.pair (.int .i64) (.pair (.int .i64) (.int .i64))))
abbrev zdP : Ty := .pair (.str) (.str)
abbrev zdR : Ty := .pair (.int .i64) (.pair (.int .i64) (.pair (.int .i64) (.pair (.str) (.sl zdP))))
abbrev zdO : Ty := .pair (.int .i64) (.pair (.int .i64) (.pair (.str) (.int .i64)))
abbrev zdS : Ty := .pair (.int .i64) (.pair (.int .i64) (.sl zd5))
abbrev zdM : Ty := .pair (.sl zdP) (.sl zdR)
abbrev zdK : Ty := .pair zdS (.pair zdM (.pair (.sl (.int .i64)) (.sl zdE)))
abbrev zdG : Ty := .pair (.pair zdK zdK) (.int .i64)
abbrev zJ : AV := .junk
abbrev zK (l : List AV) : List AV := .junk :: .junk :: .junk :: .junk :: .junk :: .junk :: .junk :: .junk :: l
@[reducible] def AV.b (b : Bool) : AV := .bool (b = true) (instDecidableEqBool b true)
def AV.cells : AV → List AV
 | .agg cs => cs
 | v => [v]
def AV.leaf : AV → Bool
 | .agg _ | .tup _ | .junk | .keys .. | .itr .. | .row .. | .bld .. | .bld0 .. => false
 | _ => true
def AV.plain : AV → Bool
 | .keys .. | .itr .. | .row .. | .bld .. | .bld0 .. => false
 | _ => true
def enc : (t : Ty) → El t → List AV
 | .int k, n => [.int k n]
 | .bool, b => [.b b]
 | .str, s => [.str s]
 | .unit, _ => []
 | .pair a b, x => enc a x.1 ++ enc b x.2
 | .sl t, l => [.sl none t l]
def dec : (t : Ty) → List AV → Option (El t × List AV)
 | .int k, .int l n :: r => if k = l then some (n, r) else none
 | .bool, .bool p d :: r => some (@decide p d, r)
 | .str, .str s :: r => some (s, r)
 | .unit, r => some ((), r)
 | .pair a b, r => match dec a r with
  | none => none
  | some (x, r1) => match dec b r1 with
   | none => none
   | some (y, r2) => some ((x, y), r2)
 | .sl t, .sl _ t' l :: r => match Ty.same t' t with
  | some ⟨h⟩ => some (h ▸ l, r)
  | none => none
 | .sl _, .nilsl :: r => some ([], r)
 | .sl _, .emp _ :: r => some ([], r)
 | _, _ => none
inductive Shp where
 | v (t : Ty)
 | a (t : Ty)
 | p (t : Ty)
 | fn (f : FuncId) (l : List Ty)
@[reducible] def tysOf : List Ty → Ty
 | [] => .unit
 | [t] => t
 | t :: r :: l => .pair t (tysOf (r :: l))
@[reducible] def Shp.ty : Shp → Ty
 | .v t => t
 | .a t => t
 | .p t => t
 | .fn _ l => tysOf l
def encPs : (l : List Ty) → El (tysOf l) → List AV
 | [], _ => []
 | [t], x => [.elp t x 0]
 | t :: r :: l, x => .elp t x.1 0 :: encPs (r :: l) x.2
def enc1 : (s : Shp) → El s.ty → AV
 | .v t, x => (enc t x).headD .junk
 | .a t, x => .agg (enc t x)
 | .p t, x => .elp t x 0
 | .fn f l, x => .fn f (encPs l x)
def decP (t : Ty) : AV → Option (El t)
 | .elp u x 0 => (match Ty.same u t with
  | some ⟨h⟩ => some (h ▸ x)
  | none => none)
 | _ => none
def decPs : (l : List Ty) → List AV → Option (El (tysOf l))
 | [], [] => some ()
 | [t], [v] => decP t v
 | t :: r :: l, v :: vs => match decP t v, decPs (r :: l) vs with
  | some x, some y => some (x, y)
  | _, _ => none
 | _, _ => none
def dec1 : (s : Shp) → AV → Option (El s.ty)
 | .v t, v => match dec t [v] with
  | some (x, []) => some x
  | _ => none
 | .a t, .agg cs => match dec t cs with
  | some (x, []) => some x
  | _ => none
 | .a _, _ => none
 | .p t, v => decP t v
 | .fn f l, .fn g caps => if g = f then decPs l caps else none
 | .fn _ _, _ => none
@[reducible] def sgTy : List Shp → Ty
 | [] => .unit
 | [s] => s.ty
 | s :: r :: l => .pair s.ty (sgTy (r :: l))
def encs : (sg : List Shp) → El (sgTy sg) → List AV
 | [], _ => []
 | [s], x => [enc1 s x]
 | s :: r :: l, x => enc1 s x.1 :: encs (r :: l) x.2
def decs : (sg : List Shp) → List AV → Option (El (sgTy sg))
 | [], [] => some ()
 | [s], [v] => dec1 s v
 | s :: r :: l, v :: vs => match dec1 s v, decs (r :: l) vs with
  | some x, some y => some (x, y)
  | _, _ => none
 | _, _ => none
inductive Rs where
 | one (s : Shp)
 | tup (l : List Shp)
@[reducible] def Rs.ty : Rs → Ty
 | .one s => s.ty
 | .tup l => sgTy l
def encR : (r : Rs) → El r.ty → AV
 | .one s, x => enc1 s x
 | .tup l, x => .tup (encs l x)
def decR : (r : Rs) → AV → Option (El r.ty)
 | .one s, v => dec1 s v
 | .tup l, .tup vs => decs l vs
 | .tup _, _ => none
structure Con where
 id : FuncId
 sg : List Shp
 rs : Rs
 f : El (sgTy sg) → Option (El rs.ty)
inductive D where
 | int (k : IntKind)
 | bool
 | str
 | sl (e : TypeId)
 | arr (n : Nat) (e : TypeId)
 | st (fs : List (TypeId × Nat))
 | map (k e : TypeId)
 | cell
 | other
structure TI where
 d : D
 size : Nat
 bytes : Nat
 zero : List AV
 ty : Option Ty
 eq : Bool
structure An where
 live : List (Nat × List Nat × Nat) := []
 join : List (Nat × List (Nat × Ty)) := []
structure St where
 tmps : List AV
 boxes : List (List AV)
 alive : List Bool
structure ConS where
 id : FuncId
 run : List AV → St → Option (Σ t : Ty, Option (El t) × (El t → AV × St))
structure Ctx where
 T : List TI
 G : List Con
 S : List ConS
 an : An
def Ctx.ti (C : Ctx) (t : TypeId) : TI := C.T.getD t ⟨.other, 0, 0, [], none, false⟩
def D.isAgg : D → Bool
 | .arr .. | .st _ => true
 | _ => false
def D.known : D → Bool
 | .other => false
 | _ => true
def D.scal : D → Bool
 | .int _ | .bool | .str => true
 | _ => false
def ofLeaf : Value → AV
 | .bool b => .b b
 | .int k n => .int k n
 | .string s => .str s
 | .pointer none => .nilp
 | .slice none 0 0 => .nilsl
 | _ => .junk
def ofV : Value → AV
 | .agg cs => .agg (cs.toList.map ofLeaf)
 | .tuple cs => .tup (cs.toList.map ofLeaf)
 | v => ofLeaf v
def ev (s : St) : Operand → AV
 | .tmp t => s.tmps.getD t .junk
 | .const v => ofV v
 | .global _ => .junk
 | .func f => .fn f []
def St.put (s : St) (dst : Option Tmp) (v : AV) : St :=
 match dst with
 | none => s
 | some d => { s with tmps := s.tmps.set d v }
def bget (s : ByteArray) (i : Int) : Option UInt8 := if 0 ≤ i then s[i.toNat]? else none
def lget {α : Type} (l : List α) (i : Int) : Option α := if 0 ≤ i then l[i.toNat]? else none
def ssub (s : ByteArray) (lo hi : Int) : Option ByteArray := if 0 ≤ lo ∧ lo ≤ hi ∧ hi ≤ (s.size : Int) then some (s.extract lo.toNat hi.toNat) else none
def lsub {α : Type} (l : List α) (lo hi : Int) : Option (List α) := if 0 ≤ lo ∧ lo ≤ hi ∧ hi ≤ (l.length : Int) then some ((l.take hi.toNat).drop lo.toNat) else none
def scat (a b : ByteArray) : Option ByteArray := if a.size + b.size ≤ 9223372036854775807 then some (a ++ b) else none
def lcat {α : Type} (bytes : Nat) (a b : List α) : Option (List α) := if (a.length + b.length) * bytes ≤ 140737488355328 then some (a ++ b) else none
def lset {α : Type} (l : List α) (j : Nat) (x : α) : Option (List α) := if j < l.length then some (l.set j x) else none
def lcopy {α : Type} (l : List α) (off len : Nat) (m : List α) : Option (List α) := if off + len ≤ l.length then some (l.take off ++ m.take len ++ l.drop (off + min m.length len)) else none
def lpart {α : Type} (l : List α) (off len : Nat) : Option (List α) := if off + len ≤ l.length then some ((l.drop off).take len) else none
def scopy (z : ByteArray) (i : Nat) (old : Int) : Int := if i < z.size then ((z.data.getD i 0).toNat : Int) else old
def bytesOf (l : List Int) : ByteArray := ⟨(l.map fun n => UInt8.ofNat n.toNat).toArray⟩
section
variable {R : Type}
def bop (op : BinOp) (k : IntKind) (x y : Int) (K : AV → Option R) : Option R :=
 match op with
 | .add => K (.int k (k.wrap (x + y)))
 | .sub => K (.int k (k.wrap (x - y)))
 | .mul => K (.int k (k.wrap (x * y)))
 | .quo => if y = 0 then none else K (.int k (k.wrap (x.tdiv y)))
 | .rem => if y = 0 then none else K (.int k (x.tmod y))
 | .and | .or | .xor | .andNot => K (.int k (Go.bits op k x y))
 | .eql => K (.bool (x = y) inferInstance)
 | .neq => K (.bool (¬ x = y) inferInstance)
 | .lss => K (.bool (x < y) inferInstance)
 | .leq => K (.bool (x ≤ y) inferInstance)
 | .gtr => K (.bool (x > y) inferInstance)
 | .geq => K (.bool (x ≥ y) inferInstance)
 | _ => none
def shop (op : BinOp) (k : IntKind) (x y : Int) (K : AV → Option R) : Option R :=
 match op with
 | .shl => if y < 0 then none else K (.int k (k.wrap (x * 2 ^ (min y.toNat k.bits))))
 | .shr => if y < 0 then none else K (.int k (x.fdiv (2 ^ (min y.toNat k.bits))))
 | _ => none
def sop (op : BinOp) (x y : ByteArray) (K : AV → Option R) : Option R :=
 match op with
 | .add => (scat x y).bind fun z => K (.str z)
 | .eql => K (.bool (x = y) inferInstance)
 | .neq => K (.bool (¬ x = y) inferInstance)
 | _ => none
def same : List D → List AV → List AV → Option (Σ' p : Prop, Decidable p)
 | [], [], [] => some ⟨True, inferInstance⟩
 | .int _ :: ds, .int k x :: r, .int m y :: l => if k = m then (match same ds r l with
  | some ⟨p, d⟩ => some ⟨x = y ∧ p, @instDecidableAnd _ _ inferInstance d⟩
  | none => none) else none
 | .bool :: ds, .bool p d :: r, .bool q e :: l => match same ds r l with
  | some ⟨o, f⟩ => some ⟨(@decide p d = @decide q e) ∧ o, @instDecidableAnd _ _ inferInstance f⟩
  | none => none
 | .str :: ds, .str x :: r, .str y :: l => match same ds r l with
  | some ⟨p, d⟩ => some ⟨x = y ∧ p, @instDecidableAnd _ _ inferInstance d⟩
  | none => none
 | _, _, _ => none
def sameK (q : Option (Σ' p : Prop, Decidable p)) (op : BinOp) (K : AV → Option R) : Option R :=
 match q, op with
 | some ⟨p, d⟩, .eql => K (.bool p d)
 | some ⟨p, d⟩, .neq => K (.bool (¬ p) (@instDecidableNot p d))
 | _, _ => none
end
set_option linter.unusedVariables false
section
variable {R : Type}
def asInt : AV → (Int → Option R) → Option R
 | .int _ n, K => K n
 | _, _ => none
def orInt (d : Int) (x : Option AV) (K : Int → Option R) : Option R :=
 match x with
 | none => K d
 | some v => asInt v K
def pickAt (i : Int) (K : Nat → Option R) : Nat → Nat → Option R
 | 0, _ => none
 | n + 1, j => if i = (j : Int) then K j else pickAt i K n (j + 1)
def partOf (I : TI) (cs : List AV) (off : Nat) (K : AV → Option R) : Option R :=
 let c := (cs.drop off).take I.size
 match I.d with
 | .other => none
 | .arr _ _ | .st _ => if c.length = I.size then K (.agg c) else none
 | _ => (match c with | [v] => if I.size = 1 then K v else none | _ => none)
def fillAt (place : Nat → Option (Nat × Nat)) : List (Nat × AV) → List AV → Option (List AV)
 | [], cs => some cs
 | (i, v) :: r, cs => match place i with
  | none => none
  | some (off, size) => let c := v.cells; if c.length = size ∧ off + size ≤ cs.length ∧ c.all AV.leaf then fillAt place r (cs.take off ++ c ++ cs.drop (off + size)) else none
def rowsOf (t : Ty) : Nat → List AV → Option (List (El t))
 | 0, [] => some []
 | n + 1, cs => match dec t cs with
  | some (x, r) => (match rowsOf t n r with | some l => some (x :: l) | none => none)
  | none => none
 | 0, _ :: _ => none
def listOf (t : Ty) : AV → Option (List (El t))
 | .sl _ u l => match Ty.same u t with
  | some ⟨h⟩ => some (h ▸ l)
  | none => none
 | .nilsl => some []
 | .emp _ => some []
 | _ => none
def lenOf : D → AV → Option Nat
 | .str, .str s => some s.size
 | .sl _, .sl _ _ l => some l.length
 | .sl _, .nilsl => some 0
 | .sl _, .emp _ => some 0
 | .sl _, .ms _ _ _ n => some n
 | .arr n _, _ => some n
 | _, _ => none
def callOf (C : Ctx) (f : FuncId) (args : List AV) (K : AV → Option R) : Option R :=
 match C.G.find? (fun c => c.id == f) with
 | some c => (match decs c.sg args with
  | some a => (c.f a).bind fun b => K (encR c.rs b)
  | none => none)
 | none => none
def built (C : Ctx) (ρ : Operand → AV) (t : TypeId) (n : Nat) (parts : List (Nat × Operand)) (K : (t : Ty) → List (El t) → Option R) : Option R :=
 match (C.ti t).d with
 | .sl e => let I := C.ti e
  (match I.ty with
  | some u => if I.d.known = true ∧ I.zero.length = I.size ∧ u.sz = I.size ∧ n * I.size ≤ 16777216 ∧ n ≤ 16777216 then
    (match fillAt (fun i => some (i * I.size, I.size)) (parts.map fun p => (p.1, ρ p.2)) (List.replicate n I.zero).flatten with
    | some cs => (match rowsOf u n cs with | some l => K u l | none => none)
    | none => none) else none
  | none => none)
 | _ => none
def xa (C : Ctx) (ρ : Operand → AV) (o : Op) (K : AV → Option R) : Option R :=
 match o with
 | .move x | .assign x => K (ρ x)
 | .pick c a b => match ρ c with
  | .bool p d => @ite _ p d (K (ρ a)) (K (ρ b))
  | _ => none
 | .build t parts => let I := C.ti t
  (match I.d with
  | .st fs => (match fillAt (fun i => match fs[i]? with | some f => some (f.2, (C.ti f.1).size) | none => none) (parts.toList.map fun p => (p.1, ρ p.2)) I.zero with | some cs => if fs.all (fun f => (C.ti f.1).d.known) = true then K (.agg cs) else none | none => none)
  | .arr _ e => (match fillAt (fun i => some (i * (C.ti e).size, (C.ti e).size)) (parts.toList.map fun p => (p.1, ρ p.2)) I.zero with | some cs => if (C.ti e).d.known = true then K (.agg cs) else none | none => none)
  | _ => none)
 | .buildSlice t n parts => built C ρ t n parts.toList fun u l => if n = 0 then K (.emp u) else K (.sl none u l)
 | .nilCheck x => match ρ x with
  | .ptr b i => K (.ptr b i)
  | .elp t x i => K (.elp t x i)
  | _ => none
 | .binOp op xt x y _ => match ρ x, ρ y with
  | .int k a, .int l b => (match op with
   | .shl | .shr => shop op k a b K
   | _ => if k = l then bop op k a b K else none)
  | .str a, .str b => sop op a b K
  | .bool p d, .bool q e => (match (C.ti xt).d, op with
   | .bool, .eql => K (.bool (@decide p d = @decide q e) inferInstance)
   | .bool, .neq => K (.bool (¬ @decide p d = @decide q e) inferInstance)
   | _, _ => none)
  | .ptr _ _, .nilp => (match (C.ti xt).d, op with
   | .cell, .eql => if (C.ti xt).eq = true then K (.bool False inferInstance) else none
   | .cell, .neq => if (C.ti xt).eq = true then K (.bool True inferInstance) else none
   | _, _ => none)
  | .agg xs, .agg ys => (match (C.ti xt).d with
   | .st fs => if (C.ti xt).eq = true ∧ fs.map (·.2) = List.range fs.length then sameK (same (fs.map fun f => (C.ti f.1).d) xs ys) op K else none
   | .arr n e => if 0 < n ∧ (C.ti e).size = 1 then sameK (same (List.replicate n (C.ti e).d) xs ys) op K else none
   | _ => none)
  | _, _ => none
 | .unOp op _ x => match op, ρ x with
  | .neg, .int k n => K (.int k (k.wrap (0 - n)))
  | .xor, .int k n => K (.int k (Go.bits .xor k (if k.signed then -1 else k.max) n))
  | .not, .bool p d => K (.bool (¬ p) (@instDecidableNot p d))
  | _, _ => none
 | .convert src dst x => if (C.ti src).d.known = false then none else match (C.ti dst).d, ρ x with
  | .int k, .int _ n => K (.int k (k.wrap n))
  | .str, .str s => K (.str s)
  | .str, .sl _ (.int .u8) l => (match (C.ti src).d with
   | .sl e => (match (C.ti e).d with | .int .u8 => K (.str (bytesOf l)) | _ => none)
   | _ => none)
  | _, _ => none
 | .slice t x lo hi none => match (C.ti t).d, ρ x with
  | .str, .str s => orInt 0 (lo.map ρ) fun l => orInt s.size (hi.map ρ) fun h => (ssub s l h).bind fun z => K (.str z)
  | .sl e, .sl _ u m => if (C.ti e).d.known = true ∧ u.sz = (C.ti e).size then orInt 0 (lo.map ρ) fun l => orInt m.length (hi.map ρ) fun h => (lsub m l h).bind fun z => K (.sl none u z) else none
  | .sl e, .ms b sz off n => if (C.ti e).d.known = true ∧ sz = (C.ti e).size then orInt 0 (lo.map ρ) fun l => orInt n (hi.map ρ) fun h => if 0 ≤ l ∧ l ≤ h ∧ h ≤ (n : Int) then K (.ms b sz (off + l.toNat) (h.toNat - l.toNat)) else none else none
  | .arr n e, .ptr b 0 => (match lo, hi with
   | none, none => if (C.ti e).d.known = true ∧ 0 < n then K (.ms b (C.ti e).size 0 n) else none
   | _, _ => none)
  | _, _ => none
 | .fieldAddr t x f => match (C.ti t).d with
  | .st fs => (match fs[f]? with
   | some q => if (C.ti q.1).d.known = false ∨ (C.ti q.1).size = 0 then none else (match ρ x with
    | .ptr b i => K (.ptr b (i + q.2))
    | .elp u y i => K (.elp u y (i + q.2))
    | _ => none)
   | none => none)
  | _ => none
 | .field t x f => match (C.ti t).d, ρ x with
  | .st fs, .agg cs => (match fs[f]? with
   | some q => partOf (C.ti q.1) cs q.2 K
   | none => none)
  | _, _ => none
 | .indexAddr t x i => match (C.ti t).d, ρ x with
  | .arr n e, .ptr b j => if (C.ti e).d.known = false then none else asInt (ρ i) fun i => pickAt i (fun m => K (.ptr b (j + m * (C.ti e).size))) n 0
  | .arr n e, .elp u y j => if (C.ti e).d.known = false then none else asInt (ρ i) fun i => pickAt i (fun m => K (.elp u y (j + m * (C.ti e).size))) n 0
  | .sl e, .sl _ u l => if (C.ti e).d.known = true ∧ u.sz = (C.ti e).size then asInt (ρ i) fun i => (lget l i).bind fun y => K (.elp u y 0) else none
  | .sl e, .ms b sz off n => if (C.ti e).d.known = true ∧ sz = (C.ti e).size then asInt (ρ i) fun i => if 0 ≤ i ∧ i < (n : Int) then K (.mse b sz (off + i.toNat)) else none else none
  | _, _ => none
 | .index t x i => match (C.ti t).d, ρ x with
  | .arr n e, .agg cs => asInt (ρ i) fun i => pickAt i (fun m => partOf (C.ti e) cs (m * (C.ti e).size) K) n 0
  | .str, .str s => asInt (ρ i) fun i => (bget s i).bind fun b => K (.int .u8 b.toNat)
  | _, _ => none
 | .extract x i => match ρ x with
  | .tup vs => (match vs[i]? with | some v => K v | none => none)
  | _ => none
 | .makeFunc (.func f) first caps => if first.size = 0 then K (.fn f (caps.toList.map ρ)) else none
 | .call c => match c.callee with
  | .value f => (match ρ f with
   | .fn g caps => callOf C g (c.args.toList.map ρ ++ caps) K
   | _ => none)
  | .builtin .len => (match c.args.toList.map ρ, c.argTypes.toList with
   | [v], [t] => (match lenOf (C.ti t).d v with
    | some n => K (.int .i64 n)
    | none => none)
   | _, _ => none)
  | .builtin .min => (match c.args.toList.map ρ with
   | [.int k a, .int l b] => if k = l then @ite _ (b < a) inferInstance (K (.int k b)) (K (.int k a)) else none
   | _ => none)
  | .builtin .max => (match c.args.toList.map ρ with
   | [.int k a, .int l b] => if k = l then @ite _ (b > a) inferInstance (K (.int k b)) (K (.int k a)) else none
   | _ => none)
  | _ => none
 | _ => none
def cellsAt (s : St) (v : AV) (n : Nat) : Option (List AV) :=
 match v with
 | .ptr b i => (match s.boxes[b]? with
  | some cs => if i + n ≤ cs.length ∧ cs.all AV.plain = true then some ((cs.drop i).take n) else none
  | none => none)
 | .elp t x i => if i + n ≤ (enc t x).length then some (((enc t x).drop i).take n) else none
 | _ => none
def xload (C : Ctx) (s : St) (t : TypeId) (a : AV) (K : AV → Option R) : Option R :=
 match cellsAt s a (C.ti t).size with
 | some cs => partOf (C.ti t) cs 0 K
 | none => none
def sameTmp : Operand → Operand → Bool
 | .tmp a, .tmp b => a == b
 | _, _ => false
def rowOf (s : St) (b : Nat) : Option (Σ t : Ty, List (El t)) :=
 match s.boxes[b]? with
 | some [.row t l] => some ⟨t, l⟩
 | _ => none
def overStr (z : ByteArray) : Nat → List AV → Option (List AV)
 | _, [] => some []
 | i, .int .u8 n :: r => match overStr z (i + 1) r with
  | some l => some (.int .u8 (scopy z i n) :: l)
  | none => none
 | _, _ => none
def bytesIn : List AV → Option (List Int)
 | [] => some []
 | .int .u8 n :: r => match bytesIn r with
  | some l => some (n :: l)
  | none => none
 | _ => none
def frzP (s : St) (t : Ty) : AV → AV
 | .ptr b i => (match s.boxes[b]? with
  | some cs => if cs.all AV.plain = true then (match dec t ((cs.drop i).take t.sz) with
   | some (x, []) => .elp t x 0
   | _ => .junk) else .junk
  | none => .junk)
 | v => v
def frzPs (s : St) : List Ty → List AV → List AV
 | t :: l, v :: vs => frzP s t v :: frzPs s l vs
 | _, vs => vs
def frz (s : St) : Shp → AV → AV
 | .p t, v => frzP s t v
 | .fn _ l, .fn g caps => .fn g (frzPs s l caps)
 | _, v => v
def frzs (s : St) : List Shp → List AV → List AV
 | h :: sg, v :: vs => frz s h v :: frzs s sg vs
 | _, vs => vs
def Shp.looks : Shp → Bool
 | .p _ | .fn .. => true
 | _ => false
def Ty.flat : Ty → Bool
 | .sl _ => false
 | .pair a b => a.flat && b.flat
 | _ => true
def Shp.flat : Shp → Bool
 | .v t | .a t => t.flat
 | _ => false
def Rs.flat : Rs → Bool
 | .one s => s.flat
 | .tup l => l.all Shp.flat
def hasI (z : Int) (l : List Int) : AV := .bool (z ∈ l) inferInstance
instance memS (z : ByteArray) : (l : List ByteArray) → Decidable (z ∈ l)
 | [] => isFalse (by simp)
 | x :: l => match (inferInstance : Decidable (z = x)), memS z l with
  | isTrue h, _ => isTrue (by rw [h]; exact .head _)
  | _, isTrue h => isTrue (.tail _ h)
  | isFalse h, isFalse g => isFalse (fun hm => (List.mem_cons.1 hm).elim h g)
def hasS (z : ByteArray) (l : List ByteArray) : AV := .bool (z ∈ l) (memS z l)
def D.isBool : D → Bool
 | .bool => true
 | _ => false
def keyIn (u : Ty) (l : List (El u)) (v : AV) (K : AV → Option R) : Option R :=
 match u, l, v with
 | .int .i64, l, .int .i64 z => if -9223372036854775808 ≤ z ∧ z ≤ 9223372036854775807 then K (hasI z l) else none
 | .str, l, .str z => if z.size ≤ 9223372036854775807 then K (hasS z l) else none
 | _, _, _ => none
def keyAdd (u : Ty) (l : List (El u)) (v : AV) (K : List (El u) → Option R) : Option R :=
 match u, l, v with
 | .int .i64, l, .int .i64 z => if -9223372036854775808 ≤ z ∧ z ≤ 9223372036854775807 ∧ l.length < 9223372036854775807 then K (l ++ [z]) else none
 | .str, l, .str z => if z.size ≤ 9223372036854775807 ∧ l.length < 9223372036854775807 then K (l ++ [z]) else none
 | _, _, _ => none
def keyTy : D → Option Ty
 | .int .i64 => some (.int .i64)
 | .str => some .str
 | _ => none
def intsOf (z : ByteArray) : List Int := z.data.toList.map fun c => (c.toNat : Int)
def bldW (g : FuncId) (T : TypeId) : ConS := ⟨g, fun args s => match args with
 | [.str z, .ptr b 0] => (match s.boxes[b]? with
  | some [.bld0 e] => if e == T then some ⟨.sl (.int .u8), lcat 1 [] (intsOf z), fun l' => (.tup [], { s with boxes := s.boxes.set b [.bld (some s.alive.length) T l'], alive := s.alive ++ [true] })⟩ else none
  | some [.bld (some i) e l] => if e == T ∧ s.alive[i]? = some true then some ⟨.sl (.int .u8), lcat 1 l (intsOf z), fun l' => (.tup [], { s with boxes := s.boxes.set b [.bld (some s.alive.length) T l'], alive := (s.alive.set i false) ++ [true] })⟩ else none
  | _ => none)
 | _ => none⟩
def bldS (g : FuncId) (T : TypeId) : ConS := ⟨g, fun args s => match args with
 | [.ptr b 0] => (match s.boxes[b]? with
  | some [.bld (some i) e l] => if e == T ∧ s.alive[i]? = some true then some ⟨.unit, some (), fun _ => (.str (bytesOf l), { s with alive := s.alive.set i false })⟩ else none
  | _ => none)
 | _ => none⟩
def callS (C : Ctx) (s : St) (f : FuncId) (args : List AV) (K : AV → St → Option R) : Option R :=
 match C.S.find? (fun c => c.id == f) with
 | some c => (match c.run args s with
  | some ⟨_, x, g⟩ => x.bind fun y => K (g y).1 { (g y).2 with tmps := s.tmps }
  | none => none)
 | none => (match C.G.find? (fun c => c.id == f) with
  | some c => if c.sg.any Shp.looks = true then (if c.rs.flat = true then (match decs c.sg (frzs s c.sg args) with
    | some a => (c.f a).bind fun b => K (encR c.rs b) s
    | none => none) else none) else callOf C f args fun v => K v s
  | none => none)
def xm (C : Ctx) (s : St) (o : Op) (K : AV → St → Option R) : Option R :=
 match o with
 | .convert src dst x => (match (C.ti dst).d, (C.ti src).d, ev s x with
  | .str, .sl e, .ms b sz off n => (match (C.ti e).d, rowOf s b with
   | .int .u8, some ⟨.int .u8, l⟩ => if sz = 1 then (lpart l off n).bind fun z => K (.str (bytesOf z)) s else none
   | .int .u8, none => if sz = 1 then (match s.boxes[b]? with
    | some cs => if cs.all AV.plain = true ∧ off + n ≤ cs.length then (match bytesIn ((cs.drop off).take n) with
     | some z => K (.str (bytesOf z)) s
     | none => none) else none
    | none => none) else none
   | _, _ => none)
  | _, _, _ => xa C (ev s) (.convert src dst x) fun v => K v s)
 | .call { callee := .value f, args, argTypes } => (match ev s f with
  | .fn g caps => callS C s g (args.toList.map (ev s) ++ caps) K
  | _ => none)
 | o => xa C (ev s) o fun v => K v s
def isCallS (C : Ctx) : Op → Bool
 | .call { callee := .value (.func g), .. } => (C.S.find? (fun c => c.id == g)).isSome
 | _ => false
def boxNew (e : TypeId) : List AV → List AV
 | [.nilp, .nilsl] => [.bld0 e]
 | z => z
def xs (C : Ctx) (dr : Bool) (s : St) (o : Op) (K : AV → St → Option R) : Option R :=
 match o with
 | .alloc e => if (C.ti e).d.known = true then K (.ptr s.boxes.length 0) { s with boxes := s.boxes ++ [boxNew e (C.ti e).zero] } else none
 | .box _ x => if (ev s x).cells.all AV.leaf = true then K (.ptr s.boxes.length 0) { s with boxes := s.boxes ++ [(ev s x).cells] } else none
 | .load t a => xload C s t (ev s a) fun v => K v s
 | .store t a x => (match ev s a with
  | .ptr b i => (match s.boxes[b]? with
   | some cs => if (C.ti t).d.known = true ∧ (ev s x).cells.length = (C.ti t).size ∧ (ev s x).cells.all AV.leaf = true ∧ i + (C.ti t).size ≤ cs.length ∧ cs.all AV.plain = true then K (.tup []) { s with boxes := s.boxes.set b (cs.take i ++ (ev s x).cells ++ cs.drop (i + (C.ti t).size)) } else none
   | none => none)
  | .mse b sz j => (match rowOf s b with
   | some ⟨u, l⟩ => if (C.ti t).d.known = true ∧ u.sz = (C.ti t).size ∧ sz = u.sz ∧ (ev s x).cells.all AV.leaf = true then (match dec u (ev s x).cells with
    | some (y, []) => (lset l j y).bind fun l' => K (.tup []) { s with boxes := s.boxes.set b [.row u l'] }
    | _ => none) else none
   | none => none)
  | _ => none)
 | .buildSlice t n parts => built C (ev s) t n parts.toList fun u l => if dr then (if n = 0 then K (.emp u) s else K (.sl none u l) s) else K (.sl (some s.alive.length) u l) { s with alive := s.alive ++ [true] }
 | .makeSlice t n c => (match (C.ti t).d with
  | .sl e => (match (C.ti e).ty with
   | some u => if (C.ti e).d.known = true ∧ u.sz = (C.ti e).size ∧ dr = false then
     (match ev s n, ev s c with
     | .int _ m, .int k c' => if sameTmp n c = true then (if (C.ti e).zero.length = (C.ti e).size ∧ 0 < (C.ti e).bytes then (match dec u (C.ti e).zero with
       | some (z, []) => if 0 ≤ c' ∧ (C.ti e).bytes * c' ≤ 281474976710656 then K (.ms s.boxes.length u.sz 0 c'.toNat) { s with boxes := s.boxes ++ [[.row u (List.replicate c'.toNat z)]] } else none
       | _ => none) else none)
      else if m = 0 ∧ 0 ≤ c' ∧ (C.ti e).bytes * c' ≤ 281474976710656 ∧ c' ≤ 9223372036854775807 then K (.sl (some s.alive.length) u []) { s with alive := s.alive ++ [true] } else none
     | _, _ => none) else none
   | none => none)
  | _ => none)
 | .call { callee := .builtin .append, args, argTypes } => (match args.toList, argTypes.toList with
  | [base, x], [t, t'] => (match (C.ti t).d with
   | .sl e => (match (C.ti e).ty with
    | some u => if t = t' ∧ (C.ti e).d.known = true ∧ (C.ti e).zero.length = (C.ti e).size ∧ u.sz = (C.ti e).size ∧ 0 < (C.ti e).size ∧ 0 < (C.ti e).bytes then
      (match listOf u (ev s x), ev s base with
      | some m, .emp _ => (lcat (C.ti e).bytes [] m).bind fun z => K (.sl none u z) s
      | some m, .nilsl => (lcat (C.ti e).bytes [] m).bind fun z => K (.sl (some s.alive.length) u z) { s with alive := s.alive ++ [true] }
      | some m, .sl (some i) u' l => (match Ty.same u' u, s.alive[i]? with
       | some ⟨h⟩, some true => (lcat (C.ti e).bytes (h ▸ l) m).bind fun z => K (.sl (some s.alive.length) u z) { s with alive := (s.alive.set i false) ++ [true] }
       | _, _ => none)
      | _, _ => none) else none
    | none => none)
   | _ => none)
  | _, _ => none)
 | .makeMap t none => (match (C.ti t).d with
  | .map k e => (match keyTy (C.ti k).d with
   | some u => if (C.ti e).d.isBool = true ∧ (C.ti e).eq = true ∧ dr = false then K (.mp s.boxes.length) { s with boxes := s.boxes ++ [[.keys k e u []]] } else none
   | none => none)
  | _ => none)
 | .lookup t m x false => (match (C.ti t).d, ev s m with
  | .map k e, .mp b => (match s.boxes[b]? with
   | some [.keys k' e' u l] => if k = k' ∧ e = e' ∧ dr = false then keyIn u l (ev s x) fun v => K v s else none
   | _ => none)
  | _, _ => none)
 | .mapUpdate t m x (.const (.bool true)) => (match (C.ti t).d, ev s m with
  | .map k e, .mp b => (match s.boxes[b]? with
   | some [.keys k' e' u l] => if k = k' ∧ e = e' ∧ dr = false then keyAdd u l (ev s x) fun l' => K (.tup []) { s with boxes := s.boxes.set b [.keys k e u l'] } else none
   | _ => none)
  | _, _ => none)
 | .range t x => (match (C.ti t).d, ev s x with
  | .str, .str z => if dr = false then K (.ptr s.boxes.length 0) { s with boxes := s.boxes ++ [[.itr z 0]] } else none
  | _, _ => none)
 | .next x true => (match ev s x with
  | .ptr b 0 => (match s.boxes[b]? with
   | some [.itr z pos] => if dr = false then @ite _ (pos < z.size) inferInstance
     (K (.tup [.b true, .int .i64 pos, .int .i32 (Utf8.decode z pos).1]) { s with boxes := s.boxes.set b [.itr z (pos + (Utf8.decode z pos).2)] })
     (K (.tup [.b false]) s) else none
   | _ => none)
  | _ => none)
 | .call { callee := .builtin .copy, args, argTypes } => (match args.toList, argTypes.toList with
  | [x, y], [t, _] => (match (C.ti t).d, ev s x with
   | .sl e, .ms b sz off n => if (C.ti e).d.known = true ∧ sz = (C.ti e).size then (match rowOf s b with
    | some ⟨u, l⟩ => if sz = u.sz then (match listOf u (ev s y) with
     | some m => (lcopy l off n m).bind fun l' => K (.int .i64 ((min m.length n : Nat) : Int)) { s with boxes := s.boxes.set b [.row u l'] }
     | none => none) else none
    | none => if sz = 1 ∧ dr = false then (match ev s y, s.boxes[b]? with
     | .str z, some cs => if cs.all AV.plain = true ∧ off + n ≤ cs.length then (match overStr z 0 ((cs.drop off).take n) with
      | some c => K (.int .i64 ((min z.size n : Nat) : Int)) { s with boxes := s.boxes.set b (cs.take off ++ c ++ cs.drop (off + n)) }
      | none => none) else none
     | _, _ => none) else none) else none
   | _, _ => none)
  | _, _ => none)
 | o => if dr = true ∧ isCallS C o = false then xa C (ev s) o fun v => K v s else xm C s o K
def guardTmp (ops : Array Oper) (j : Nat) : Option Tmp := (ops[j]?).bind (·.dst)
def isAlloc : Op → Bool
 | .alloc _ => true
 | _ => false
def isStore (C : Ctx) : Op → Bool
 | .store .. => true
 | .call { callee := .builtin .copy, .. } => true
 | o => isCallS C o
def isLoad : Op → Bool
 | .load .. => true
 | _ => false
def aft (o : Oper) : List Edge := o.after.toList.filter fun e => Region.binds .any e
def ancOf (acc : List (List Nat)) (o : Oper) : List Nat := (aft o).flatMap fun e => e.on :: acc.getD e.on []
def ancs : List Oper → List (List Nat) → List (List Nat)
 | [], acc => acc
 | o :: r, acc => ancs r (acc ++ [ancOf acc o])
def mskOf (acc : List Nat) (o : Oper) : Nat := (aft o).foldl (fun m e => (m ||| 2 ^ e.on) ||| acc.getD e.on 0) 0
def msks : List Oper → List Nat → List Nat
 | [], acc => acc
 | o :: r, acc => msks r (acc ++ [mskOf acc o])
def freeLoad (C : Ctx) (ops : Array Oper) (o : Oper) : Bool := isLoad o.op && (let A := msks ops.toList []; let i := ops.toList.findIdx fun q => q.dst == o.dst
 ops.toList.zipIdx.any fun q => isStore C q.1.op && !(if q.2 < i then (A.getD i 0).testBit q.2 else (A.getD q.2 0).testBit i))
def isLoadB (C : Ctx) (ops : Array Oper) (o : Oper) : Bool := isLoad o.op && !freeLoad C ops o
def storesFresh (C : Ctx) (ops : Array Oper) : Bool := ops.toList.all fun q => !isStore C q.op || (match q.op with | .store _ (.tmp d) _ => ops.toList.any fun p => p.dst == some d && isAlloc p.op | _ => false)
def nOld (ops : Array Oper) (s : St) : Nat := s.boxes.length - ops.toList.countP fun q => isAlloc q.op
def offAll (C : Ctx) (ops : Array Oper) (s : St) (o : Oper) (b : Nat) : Bool := o.dst.isSome && (let A := msks ops.toList []; let i := ops.toList.findIdx fun q => q.dst == o.dst
 ops.toList.zipIdx.all fun q => !isStore C q.1.op || (if q.2 < i then (A.getD i 0).testBit q.2 else (A.getD q.2 0).testBit i) ||
  (match q.1.op with | .store _ (.tmp d) _ => (ops.toList.all fun p => p.dst != some d) && (match s.tmps.getD d .junk with | .ptr b' _ => b' != b | _ => false) | _ => false))
def badOp (C : Ctx) (ops : Array Oper) (s : St) (o : Oper) : Bool :=
 match o.op with
 | .load _ x => freeLoad C ops o && !(match ev s x with | .elp .. => true | .ptr b _ => (storesFresh C ops && decide (b < nOld ops s)) || offAll C ops s o b | _ => false)
 | .store _ x _ => storesFresh C ops && !(match ev s x with | .ptr b _ => decide (nOld ops s ≤ b) | _ => false)
 | _ => false
def xsd (C : Ctx) (dr : Bool) (ops : Array Oper) (s : St) (o : Oper) (K : AV → St → Option R) : Option R := if dr = true ∧ badOp C ops s o = true then none else xs C dr s o.op K
def xops (C : Ctx) (dr : Bool) (ops : Array Oper) : List Oper → St → (St → Option R) → Option R
 | [], s, K => K s
 | o :: r, s, K => if dr = true ∧ isAlloc o.op = true then xops C dr ops r s K else match o.guard with
  | none => xsd C dr ops s o fun v s' => xops C dr ops r (s'.put o.dst v) K
  | some (j, w) => match guardTmp ops j with
   | none => xops C dr ops r (s.put o.dst (.tup [])) K
   | some t => match s.tmps.getD t .junk with
    | .bool p d => @ite _ p d
      (if w then xsd C dr ops (s.put (some t) (.bool True inferInstance)) o fun v s' => xops C dr ops r (s'.put o.dst v) K else xops C dr ops r ((s.put (some t) (.bool True inferInstance)).put o.dst (.tup [])) K)
      (if w then xops C dr ops r ((s.put (some t) (.bool False inferInstance)).put o.dst (.tup [])) K else xsd C dr ops (s.put (some t) (.bool False inferInstance)) o fun v s' => xops C dr ops r (s'.put o.dst v) K)
    | .tup [] => xops C dr ops r (s.put o.dst (.tup [])) K
    | _ => none
def preAlloc (C : Ctx) : List Oper → St → St
 | [], s => s
 | o :: r, s => match o.op with
  | .alloc e => preAlloc C r ({ s with boxes := s.boxes ++ [(C.ti e).zero] }.put o.dst (.ptr s.boxes.length 0))
  | _ => preAlloc C r s
def isHeap (C : Ctx) : Op → Bool
 | .store .. => true
 | .call { callee := .builtin .append, .. } => true
 | .call { callee := .builtin .copy, .. } => true
 | o => isCallS C o
def drawOp (C : Ctx) (o : Oper) : Bool :=
 match o.op with
 | .select .. | .makeSlice .. | .box .. | .makeMap .. | .lookup .. | .mapUpdate .. | .range .. | .next .. => false
 | .alloc e => o.guard.isNone && (C.ti e).d.known
 | _ => true
def beside (C : Ctx) (ops : List Oper) (A : List Nat) (i j : Nat) (o p : Oper) : Bool :=
 (match p.dst with
  | some d => o.dst != some d && (!((o.looksAt ops.toArray).contains d) || (A.getD i 0).testBit j || (!isAlloc p.op && (A.getD j 0).testBit i))
  | none => true) &&
 (!(isHeap C o.op && (isHeap C p.op || (isStore C o.op && isLoadB C ops.toArray p))) || (if j < i then (A.getD i 0).testBit j else (A.getD j 0).testBit i)) &&
 (!(isHeap C o.op && isAlloc p.op) || (A.getD i 0).testBit j)
def drawOk (C : Ctx) (ops : List Oper) : Bool :=
 let A := msks ops []
 ops.zipIdx.all fun q => drawOp C q.1 && (match q.1.dst with | some d => !(q.1.looksAt ops.toArray).contains d | none => true) && ((aft q.1).all fun e => decide (e.on < q.2)) &&
  ops.zipIdx.all fun p => p.2 == q.2 || beside C ops A q.2 p.2 q.1 p.1
def outTy : List (Nat × Ty) → Ty
 | [] => .unit
 | [q] => q.2
 | q :: r :: l => .pair q.2 (outTy (r :: l))
def outOf (s : St) : (l : List (Nat × Ty)) → Option (El (outTy l))
 | [] => some ()
 | [q] => (match dec q.2 [s.tmps.getD q.1 .junk] with | some (x, []) => some x | _ => none)
 | q :: r :: l => match dec q.2 [s.tmps.getD q.1 .junk], outOf s (r :: l) with
  | some (x, []), some y => some (x, y)
  | _, _ => none
def outPut (s : St) : (l : List (Nat × Ty)) → El (outTy l) → St
 | [], _ => s
 | [q], x => s.put (some q.1) ((enc q.2 x).headD .junk)
 | q :: r :: l, x => outPut (s.put (some q.1) ((enc q.2 x.1).headD .junk)) (r :: l) x.2
def mayTurn (C : Ctx) : Operand → Bool
 | .func f => (C.S.find? (fun c => c.id == f)).isSome
 | _ => !C.S.isEmpty
def plainOps (C : Ctx) (ops : List Oper) : Bool := ops.all fun o => match o.op with
 | .alloc .. | .box .. | .store .. | .buildSlice .. | .makeSlice .. | .makeMap .. | .lookup .. | .mapUpdate .. | .range .. | .next .. => false
 | .call { callee := .builtin .append, .. } => false
 | .call { callee := .builtin .copy, .. } => false
 | .call { callee := .value f, .. } => !mayTurn C f
 | _ => true
def letGo (s : St) (ops : List Oper) : St := ops.foldl (fun s o => s.put o.dst .junk) s
def xregion (C : Ctx) (id : Nat) (ops : Array Oper) (dr : Bool) (s : St) (K : St → Option R) : Option R :=
 if dr = true then (if drawOk C ops.toList = true then xregionIn (preAlloc C ops.toList s) else none) else xregionIn s
where xregionIn (s : St) : Option R :=
 match C.an.join.find? (fun q => q.1 == id) with
 | some q => if plainOps C ops.toList = true then (xops C dr ops ops.toList s fun s' => outOf s' q.2).bind fun y => K (outPut (letGo s ops.toList) q.2 y) else none
 | none => xops C dr ops ops.toList s K
def firstRegion : Code → Option Nat
 | .region id _ _ => some id
 | .seq a b => (firstRegion a).orElse fun _ => firstRegion b
 | .cond _ a b => (firstRegion a).orElse fun _ => firstRegion b
 | .block _ b | .loop b | .scope b => firstRegion b
 | _ => none
def clearLeaf (m : Nat) : AV → Bool
 | .ptr b _ => b < m
 | .mp b => b < m
 | .ms b _ _ _ => b < m
 | .mse b _ _ => b < m
 | .fn _ caps => caps.all fun v => match v with
  | .ptr b _ => b < m
  | .elp .. => true
  | _ => false
 | .agg _ | .tup _ => false
 | _ => true
def AV.clear (m : Nat) : AV → Bool
 | .agg cs => cs.all (clearLeaf m)
 | .tup cs => cs.isEmpty
 | v => clearLeaf m v
def ownsOf (alive : List Bool) : List AV → List Nat → List Nat
 | [], acc => acc
 | .sl (some i) _ _ :: r, acc => if alive.getD i false && !acc.contains i then ownsOf alive r (acc ++ [i]) else ownsOf alive r acc
 | .bld (some i) _ _ :: r, acc => if alive.getD i false && !acc.contains i then ownsOf alive r (acc ++ [i]) else ownsOf alive r acc
 | _ :: r, acc => ownsOf alive r acc
def renumLeaf (ids : List Nat) : AV → AV
 | .bool p d => .b (@decide p d)
 | .sl (some i) t l => .sl (if ids.contains i then some (ids.idxOf i) else none) t l
 | .bld (some i) T l => .bld (if ids.contains i then some (ids.idxOf i) else none) T l
 | v => v
def renum (ids : List Nat) : AV → AV
 | .agg cs => .agg (cs.map (renumLeaf ids))
 | v => renumLeaf ids v
def keepOnly (lv : List Nat) : Nat → List AV → List AV
 | _, [] => []
 | i, v :: r => (if lv.contains i then v else .junk) :: keepOnly lv (i + 1) r
def forget (lv : List Nat) (m : Nat) (s : St) : Option St :=
 let ts := keepOnly lv 0 s.tmps
 let bs := s.boxes.take m
 if ts.all (AV.clear m) && bs.all (fun b => b.all (clearLeaf m)) then
  let ids := ownsOf s.alive (bs.flatten ++ ts.flatMap AV.cells) []
  some ⟨ts.map (renum ids), bs.map (fun b => b.map (renumLeaf ids)), ids.map fun _ => true⟩
 else none
def step (C : Ctx) (rec : List Item → St → Option R) (fin : St → Option R) : Nat → List Item → St → Option R
 | 0, _, _ => none
 | m + 1, todo, s => match todo with
  | [] => fin s
  | .code c :: k => (match c with
   | .skip => step C rec fin m k s
   | .label _ => step C rec fin m k s
   | .seq a b => step C rec fin m (.code a :: .code b :: k) s
   | .cond c a b => (match c, ev s c with
    | .tmp t, .bool p d => @ite _ p d (step C rec fin m (.code a :: k) (s.put (some t) (.bool True inferInstance))) (step C rec fin m (.code b :: k) (s.put (some t) (.bool False inferInstance)))
    | _, .bool p d => @ite _ p d (step C rec fin m (.code a :: k) s) (step C rec fin m (.code b :: k) s)
    | _, _ => none)
   | .block id b => step C rec fin m (.code b :: .inBlock id :: k) s
   | .loop b => rec (.inLoop b :: k) s
   | .scope b => step C rec fin m (.code b :: .inScope b :: k) s
   | .exit id => (match exitTo id k with | some k' => step C rec fin m k' s | none => none)
   | .goto l => (match gotoIn l k with | some k' => step C rec fin m k' s | none => none)
   | .ret => fin s
   | .region id ops dr => xregion C id ops dr s fun s' => step C rec fin m k s'
   | _ => none)
  | .inBlock _ :: k => step C rec fin m k s
  | .inScope _ :: k => step C rec fin m k s
  | .inLoop b :: k => rec (.inLoop b :: k) s
  | _ => none
def steps : Nat := 1000000
def nilTmp (s : St) (q : Nat × Ty) : St := match s.tmps[q.1]? with
 | some .nilsl => { s with tmps := s.tmps.set q.1 (.sl (some s.alive.length) q.2 []), alive := s.alive ++ [true] }
 | _ => s
def nilBox (s : St) (q : Nat × Ty) : St := match s.boxes[q.1 / 1000]? with
 | some cs => (match cs[q.1 % 1000]? with
  | some .nilsl => if cs.all AV.plain = true then { s with boxes := s.boxes.set (q.1 / 1000) (cs.set (q.1 % 1000) (.sl (some s.alive.length) q.2 [])), alive := s.alive ++ [true] } else s
  | _ => s)
 | none => s
def joinOf (C : Ctx) (k : Nat) : List (Nat × Ty) := match C.an.join.find? (fun q => q.1 == k) with
 | some q => q.2
 | none => []
def lift0 (C : Ctx) (id : Nat) (s : St) : St := (joinOf C (2000000 + id)).foldl nilBox ((joinOf C (1000000 + id)).foldl nilTmp s)
def keepOf (C : Ctx) : Nat := match joinOf C 3000000 with
 | q :: _ => q.1
 | [] => 0
def atLoop (C : Ctx) (todo : List Item) (s : St) (K : St → Option R) : Option R :=
 match todo with
 | .inLoop b :: _ => (match firstRegion b with
  | some id => (match C.an.live.find? (fun q => q.1 == id) with
   | some q => (match forget q.2.1 (max q.2.2 (keepOf C)) (lift0 C id s) with
    | some s' => K s'
    | none => none)
   | none => none)
  | none => none)
 | _ => none
def run (C : Ctx) (fin : St → Option R) : Nat → List Item → St → Option R
 | 0, _, _ => none
 | n + 1, todo, s => match todo with
  | .inLoop b :: k => step C (fun todo s => atLoop C todo s (run C fin n todo)) fin steps (.code b :: .inLoop b :: k) s
  | _ => none
end
def resOf (C : Ctx) (s : St) : ResultVar → Option AV
 | .tmp t => some (s.tmps.getD t .junk)
 | .cell a t => xload C s t (s.tmps.getD a .junk) some
def resAll (C : Ctx) (s : St) : List ResultVar → Option (List AV)
 | [] => some []
 | r :: l => match resOf C s r, resAll C s l with
  | some v, some vs => some (v :: vs)
  | _, _ => none
def thawLeaf {R : Type} (s : St) (v : AV) (K : AV → Option R) : Option R :=
 match v with
 | .ms b sz 0 n => (match rowOf s b with
  | some ⟨u, l⟩ => if sz = u.sz then (lpart l 0 n).bind fun z => K (.sl none u z) else none
  | none => none)
 | v => K v
def thawLeaves {R : Type} (s : St) : List AV → (List AV → Option R) → Option R
 | [], K => K []
 | v :: l, K => thawLeaf s v fun v' => thawLeaves s l fun l' => K (v' :: l')
def thaw {R : Type} (s : St) (v : AV) (K : AV → Option R) : Option R :=
 match v with
 | .agg cs => thawLeaves s cs fun cs' => K (.agg cs')
 | v => thawLeaf s v K
def thaws {R : Type} (s : St) : List AV → (List AV → Option R) → Option R
 | [], K => K []
 | v :: l, K => thaw s v fun v' => thaws s l fun l' => K (v' :: l')
def finOf (C : Ctx) (fn : Func) (rs : Rs) (s : St) : Option (El rs.ty) :=
 match resAll C s fn.results.toList with
 | some [v] => thaw s v fun v' => decR rs v'
 | some vs => thaws s vs fun vs' => decR rs (.tup vs')
 | none => none
def enter (fn : Func) (args : List AV) : St := ⟨args ++ List.replicate (fn.ntmps - args.length) (.tup []), [], []⟩
inductive CS where
 | v (t : Ty)
 | own (t : Ty)
 | at (k : Nat)
@[reducible] def CS.ty : CS → Ty
 | .v t => t
 | .own t => .sl t
 | .at _ => .unit
def CS.owns : CS → Nat
 | .own _ => 1
 | _ => 0
@[reducible] def cellsTy : List CS → Ty
 | [] => .unit
 | [c] => c.ty
 | c :: d :: l => .pair c.ty (cellsTy (d :: l))
@[reducible] def objTy : List (List CS) → Ty
 | [] => .unit
 | [c] => cellsTy c
 | c :: d :: l => .pair (cellsTy c) (objTy (d :: l))
def encC (f : Nat → Nat) : (c : CS) → El c.ty → Nat → List AV
 | .v t, x, _ => enc t x
 | .own t, l, o => [.sl (some o) t l]
 | .at k, _, _ => [.ptr (f k) 0]
def ownsCs : List CS → Nat
 | [] => 0
 | c :: l => c.owns + ownsCs l
def ownsBs : List (List CS) → Nat
 | [] => 0
 | c :: l => ownsCs c + ownsBs l
def encCs (f : Nat → Nat) : (l : List CS) → El (cellsTy l) → Nat → List AV
 | [], _, _ => []
 | [c], x, o => encC f c x o
 | c :: d :: l, x, o => encC f c x.1 o ++ encCs f (d :: l) x.2 (o + c.owns)
def encBs (f : Nat → Nat) : (l : List (List CS)) → El (objTy l) → Nat → List (List AV)
 | [], _, _ => []
 | [c], x, o => [encCs f c x o]
 | c :: d :: l, x, o => encCs f c x.1 o :: encBs f (d :: l) x.2 (o + ownsCs c)
def decC (bs : List Nat) : (c : CS) → List AV → Option (El c.ty × List (Option Nat) × List AV)
 | .v t, cs => (match dec t cs with
  | some (x, r) => some (x, [], r)
  | none => none)
 | .own t, .sl (some i) u l :: r => (match Ty.same u t with
  | some ⟨h⟩ => some (h ▸ l, [some i], r)
  | none => none)
 | .own _, .nilsl :: r => some ([], [none], r)
 | .at k, .ptr b 0 :: r => if bs[k]? = some b then some ((), [], r) else none
 | _, _ => none
def decCs (bs : List Nat) : (l : List CS) → List AV → Option (El (cellsTy l) × List (Option Nat))
 | [], [] => some ((), [])
 | [], _ :: _ => none
 | [c], cs => (match decC bs c cs with
  | some (x, i, []) => some (x, i)
  | _ => none)
 | c :: d :: l, cs => (match decC bs c cs with
  | some (x, i, r) => (match decCs bs (d :: l) r with
   | some (y, j) => some ((x, y), i ++ j)
   | none => none)
  | none => none)
def decB (bs : List Nat) (boxes : List (List AV)) (l : List CS) (b : Nat) : Option (El (cellsTy l) × List (Option Nat)) :=
 match boxes[b]? with
 | some cs => if cs.all AV.plain = true then decCs bs l cs else none
 | none => none
def decBs (bs : List Nat) (boxes : List (List AV)) : (l : List (List CS)) → List Nat → Option (El (objTy l) × List (Option Nat))
 | [], [] => some ((), [])
 | [c], [b] => decB bs boxes c b
 | c :: d :: l, b :: ks => (match decB bs boxes c b with
  | some (x, i) => (match decBs bs boxes (d :: l) ks with
   | some (y, j) => some ((x, y), i ++ j)
   | none => none)
  | none => none)
 | _, _ => none
def ptrsIn : List AV → List Nat
 | [] => []
 | .ptr b 0 :: r => b :: ptrsIn r
 | _ :: r => ptrsIn r
def partsOf (boxes : List (List AV)) (b : Nat) : List Nat := b :: (match boxes[b]? with
 | some cs => ptrsIn cs
 | none => [])
def nodupN : List Nat → Bool
 | [] => true
 | x :: l => !l.contains x && nodupN l
def somes : List (Option Nat) → List Nat
 | [] => []
 | some i :: l => i :: somes l
 | none :: l => somes l
def ownOk (al : List Bool) (bs : List Nat) (is : List (Option Nat)) : Bool := nodupN bs && (nodupN (somes is) && (somes is).all fun i => al.getD i false)
def decObj (sh : List (List CS)) (bs : List Nat) (s : St) : Option (El (objTy sh) × List (Option Nat)) :=
 match decBs bs s.boxes sh bs with
 | some (x, is) => if ownOk s.alive bs is = true then some (x, is) else none
 | none => none
def oneOr : List AV → AV
 | [v] => v
 | vs => .tup vs
def finT (C : Ctx) (fn : Func) (mk : Bool) (rs : Rs) (sh : List (List CS)) (s : St) : Option (El (.pair rs.ty (objTy sh))) :=
 match mk, resAll C s fn.results.toList with
 | true, some (.ptr r 0 :: vs) => (match decR rs (.tup vs), decObj sh (partsOf s.boxes r) s with
  | some y, some (x, _) => some (y, x)
  | _, _ => none)
 | false, some vs => (match decR rs (oneOr vs), decObj sh (List.range sh.length) s with
  | some y, some (x, _) => some (y, x)
  | _, _ => none)
 | _, _ => none
def call (C : Ctx) (fn : Func) (c : Code) (sg : List Shp) (rs : Rs) (n : Nat) (a : El (sgTy sg)) : Option (El rs.ty) :=
 step C (fun todo s => atLoop C todo s (run C (finOf C fn rs) n todo)) (finOf C fn rs) steps [.code c] (enter fn (encs sg a))
def callM (C : Ctx) (fn : Func) (c : Code) (sg : List Shp) (rs : Rs) (sh : List (List CS)) (n : Nat) (x : El (objTy sh)) (a : El (sgTy sg)) : Option (El (.pair rs.ty (objTy sh))) :=
 step C (fun todo s => atLoop C todo s (run C (finT C fn false rs sh) n todo)) (finT C fn false rs sh) steps [.code c] ⟨(enter fn (.ptr 0 0 :: encs sg a)).tmps, encBs (fun k => k) sh x 0, List.replicate (ownsBs sh) true⟩
def callN (C : Ctx) (fn : Func) (c : Code) (sg : List Shp) (rs : Rs) (sh : List (List CS)) (n : Nat) (a : El (sgTy sg)) : Option (El (.pair rs.ty (objTy sh))) :=
 step C (fun todo s => atLoop C todo s (run C (finT C fn true rs sh) n todo)) (finT C fn true rs sh) steps [.code c] (enter fn (encs sg a))
def setBs : List (List AV) → List Nat → List (List AV) → List (List AV)
 | bx, b :: bs, c :: cs => setBs (bx.set b c) bs cs
 | bx, _, _ => bx
def killed : List Bool → List Nat → List Bool
 | al, [] => al
 | al, i :: l => killed (al.set i false) l
def objM (g : FuncId) (sg : List Shp) (rs : Rs) (sh : List (List CS)) (f : El (objTy sh) → El (sgTy sg) → Option (El (.pair rs.ty (objTy sh)))) : ConS := ⟨g, fun args s => match args with
 | .ptr b 0 :: ar => (match decObj sh (partsOf s.boxes b) s, decs sg ar with
  | some (x, is), some a => some ⟨.pair rs.ty (objTy sh), f x a, fun y => (encR rs y.1, { s with boxes := setBs s.boxes (partsOf s.boxes b) (encBs (fun k => (partsOf s.boxes b).getD k 0) sh y.2 s.alive.length), alive := killed s.alive (somes is) ++ List.replicate (ownsBs sh) true })⟩
  | _, _ => none)
 | _ => none⟩
def objN (g : FuncId) (sg : List Shp) (l : List Shp) (sh : List (List CS)) (f : El (sgTy sg) → Option (El (.pair (sgTy l) (objTy sh)))) : ConS := ⟨g, fun args s => match decs sg args with
  | some a => some ⟨.pair (sgTy l) (objTy sh), f a, fun y => (.tup (.ptr s.boxes.length 0 :: encs l y.1), { s with boxes := s.boxes ++ encBs (fun k => if k < sh.length then s.boxes.length + k else 0) sh y.2 s.alive.length, alive := s.alive ++ List.replicate (ownsBs sh) true })⟩
  | none => none⟩
open Go Go.RowKit
def RLs {α : Type} (r : α → List Value → Prop) : List α → List Value → Prop
 | [], vs => vs = []
 | x :: l, vs => ∃ a b, vs = a ++ b ∧ r x a ∧ RLs r l b
def Cs (σ : Nat → Nat → Prop) (w : World) (β off : Nat) (cs : List Value) : Prop := ∀ j v, cs[j]? = some v → σ β (off + j) ∧ w.cell? ⟨β, off + j, none⟩ = some v
def RE (σ : Nat → Nat → Prop) (w : World) : (t : Ty) → El t → List Value → Prop
 | .int k, n, vs => vs = [.int k n]
 | .bool, b, vs => vs = [.bool b]
 | .str, s, vs => vs = [.string s]
 | .unit, _, vs => vs = []
 | .pair a b, x, vs => ∃ u v, vs = u ++ v ∧ RE σ w a x.1 u ∧ RE σ w b x.2 v
 | .sl t, l, vs => ∃ A cap, vs = [.slice A l.length cap] ∧ l.length ≤ cap ∧ (l = [] ∨ ∃ β off cs, A = some ⟨β, off, none⟩ ∧ RLs (RE σ w t) l cs ∧ Cs σ w β off cs)
structure Frz where
 set : Nat → Prop
 w : World
 σ : Nat → Nat → Prop
 pin : Nat → Option Nat
def Frz.no (w : World) : Frz := ⟨fun _ => False, w, fun _ _ => False, fun _ => none⟩
structure Env where
 φ : Nat → Option Nat
 own : Nat → Option (Option Nat)
 no : Nat
 fr : Frz
def Tip (σ : Nat → Nat → Prop) (w : World) (base : Nat) (t : Ty) (l : List (El t)) (ow : Option Nat) (v : Value) : Prop :=
 v.ownBlock = ow ∧ ∃ e cs, w.ownsRow base e t.sz v l.length cs ∧ RLs (RE σ w t) l cs ∧ ∀ β, ow = some β → ∀ o, σ β o ↔ o < l.length * t.sz
mutual
def RA (ρ : Env) (base : Nat) (σ : Nat → Nat → Prop) (w : World) : AV → Value → Prop
 | .int k n, v => v = .int k n
 | .bool p d, v => v = .bool (@decide p d)
 | .str s, v => v = .string s
 | .sl o t l, v => RE σ w (.sl t) l [v] ∧ ∀ i, o = some i → i < ρ.no ∧ ∀ ow, ρ.own i = some ow → Tip σ w base t l ow v
 | .nilsl, v => v = .slice none 0 0
 | .ptr b off, v => ∃ β, ρ.φ b = some β ∧ v = .pointer (some ⟨β, off, none⟩)
 | .nilp, v => v = .pointer none
 | .elp t x off, v => ∃ β o vs, v = .pointer (some ⟨β, o + off, none⟩) ∧ RE σ w t x vs ∧ Cs σ w β o vs
 | .fn f caps, v => ∃ vs, v = .func (.func f) #[] vs ∧ RAs ρ base σ w caps vs.toList
 | .mp b, v => ∃ β, ρ.φ b = some β ∧ v = .map (some β)
 | .keys .., _ => False
 | .itr .., _ => False
 | .row .., _ => False
 | .bld .., _ => False
 | .bld0 .., _ => False
 | .emp _, v => ∃ A, v = .slice A 0 0 ∧ (A = none ∨ ∃ β o, A = some ⟨β, o, none⟩)
 | .ms b sz off n, v => ∃ A cap, v = .slice A n cap ∧ n ≤ cap ∧ ((A = none ∧ n = 0) ∨ ∃ β o, A = some ⟨β, o, none⟩ ∧ (n = 0 ∨ (ρ.φ b = some β ∧ o = off * sz)))
 | .mse b sz off, v => ∃ β, ρ.φ b = some β ∧ v = .pointer (some ⟨β, off * sz, none⟩)
 | .agg cs, v => ∃ vs, v = .agg vs ∧ RAs ρ base σ w cs vs.toList
 | .tup cs, v => ∃ vs, v = .tuple vs ∧ RAs ρ base σ w cs vs.toList
 | .junk, _ => True
def RAs (ρ : Env) (base : Nat) (σ : Nat → Nat → Prop) (w : World) : List AV → List Value → Prop
 | [], vs => vs = []
 | a :: as, vs => ∃ v r, vs = v :: r ∧ RA ρ base σ w a v ∧ RAs ρ base σ w as r
end
section
variable {ρ ρ' : Env} {base : Nat} {σ σ' : Nat → Nat → Prop} {w w' : World}
theorem RLs.mono {α : Type} {r r' : α → List Value → Prop} (h : ∀ x vs, r x vs → r' x vs) : ∀ {l vs}, RLs r l vs → RLs r' l vs
 | [], _, g => g
 | _ :: _, _, ⟨a, b, e, g, k⟩ => ⟨a, b, e, h _ _ g, RLs.mono h k⟩
structure Keeps (σ σ' : Nat → Nat → Prop) (w w' : World) : Prop where
 sig : ∀ b o, σ b o → σ' b o
 cell : ∀ b o v, σ b o → w.cell? ⟨b, o, none⟩ = some v → w'.cell? ⟨b, o, none⟩ = some v
theorem Keeps.refl : Keeps σ σ w w := ⟨fun _ _ h => h, fun _ _ _ _ h => h⟩
theorem Keeps.trans {σ'' : Nat → Nat → Prop} {w'' : World} (h : Keeps σ σ' w w') (g : Keeps σ' σ'' w' w'') : Keeps σ σ'' w w'' :=
 ⟨fun b o x => g.sig b o (h.sig b o x), fun b o v x y => g.cell b o v (h.sig b o x) (h.cell b o v x y)⟩
theorem Cs.mono (h : Keeps σ σ' w w') {β off : Nat} {cs : List Value} (g : Cs σ w β off cs) : Cs σ' w' β off cs :=
 fun j v hv => ⟨h.sig _ _ (g j v hv).1, h.cell _ _ _ (g j v hv).1 (g j v hv).2⟩
theorem RE.mono (h : Keeps σ σ' w w') : ∀ {t : Ty} {x : El t} {vs}, RE σ w t x vs → RE σ' w' t x vs
 | .int _, _, _, g => g
 | .bool, _, _, g => g
 | .str, _, _, g => g
 | .unit, _, _, g => g
 | .pair _ _, _, _, ⟨u, v, e, g, k⟩ => ⟨u, v, e, RE.mono h g, RE.mono h k⟩
 | .sl _, _, _, ⟨A, c, e, g, k⟩ => ⟨A, c, e, g, k.imp id fun ⟨β, o, cs, e, r, q⟩ => ⟨β, o, cs, e, RLs.mono (fun _ _ => RE.mono h) r, q.mono h⟩⟩
theorem RE.len : ∀ {t : Ty} {x : El t} {vs}, RE σ w t x vs → vs.length = t.sz
 | .int _, _, _, g => by rw [g]; rfl
 | .bool, _, _, g => by rw [g]; rfl
 | .str, _, _, g => by rw [g]; rfl
 | .unit, _, _, g => by rw [g]; rfl
 | .pair _ _, _, _, ⟨u, v, e, g, k⟩ => by rw [e, List.length_append, RE.len g, RE.len k]; rfl
 | .sl _, _, _, ⟨A, c, e, g, k⟩ => by rw [e]; rfl
theorem RLs.len {t : Ty} : ∀ {l : List (El t)} {cs}, RLs (RE σ w t) l cs → cs.length = l.length * t.sz
 | [], _, h => by rw [h]; simp
 | _ :: _, _, ⟨a, b, e, g, k⟩ => by rw [e, List.length_append, RE.len g, RLs.len k, List.length_cons, Nat.add_mul]; omega
theorem RLs.append {α : Type} {r : α → List Value → Prop} : ∀ {l m : List α} {a b}, RLs r l a → RLs r m b → RLs r (l ++ m) (a ++ b)
 | [], _, _, _, h, g => by rw [h]; exact g
 | _ :: _, _, _, _, ⟨a, b, e, h, k⟩, g => ⟨a, b ++ _, by rw [e, List.append_assoc], h, RLs.append k g⟩
theorem RLs.get {t : Ty} : ∀ {l : List (El t)} {cs} {i : Nat} {x : El t}, RLs (RE σ w t) l cs → l[i]? = some x → ∃ a u b, cs = a ++ u ++ b ∧ a.length = i * t.sz ∧ RE σ w t x u
 | [], _, _, _, _, h => by simp at h
 | y :: l, _, 0, x, ⟨a, b, e, g, k⟩, h => by simp at h; subst h; exact ⟨[], a, b, by rw [e]; rfl, by simp, g⟩
 | y :: l, _, i + 1, x, ⟨a, b, e, g, k⟩, h => by
  obtain ⟨a', u, b', e', hl, hu⟩ := RLs.get k (by simpa using h)
  exact ⟨a ++ a', u, b', by rw [e, e']; simp, by rw [List.length_append, RE.len g, hl, Nat.add_mul]; omega, hu⟩
theorem Cs.part {β off : Nat} {a u b : List Value} (h : Cs σ w β off (a ++ u ++ b)) : Cs σ w β (off + a.length) u := fun j v hv => by
 have := h (a.length + j) v (by rw [List.append_assoc, List.getElem?_append_right (by omega), List.getElem?_append_left (by have := (List.getElem?_eq_some_iff.1 hv).1; omega)]; rw [← hv]; congr 1; omega)
 rw [Nat.add_assoc]; exact this
structure Mono (ρ : Env) (σ : Nat → Nat → Prop) (w : World) (ρ' : Env) (σ' : Nat → Nat → Prop) (w' : World) : Prop extends Keeps σ σ' w w' where
 phi : ∀ b β, ρ.φ b = some β → ρ'.φ b = some β
 no : ρ.no ≤ ρ'.no
 own : ∀ i ow, i < ρ.no → ρ'.own i = some ow → ρ.own i = some ow ∧ ∀ β, ow = some β → (∀ o, σ' β o → σ β o) ∧ (∀ cs e f, w.heap[β]? = some (.cells cs e f) → w'.heap[β]? = some (.cells cs e f))
 fr : ρ'.fr = ρ.fr
theorem Mono.refl : Mono ρ σ w ρ σ w := ⟨.refl, fun _ _ h => h, Nat.le_refl _, fun _ _ _ h => ⟨h, fun _ _ => ⟨fun _ h => h, fun _ _ _ h => h⟩⟩, rfl⟩
theorem Mono.trans {ρ'' : Env} {σ'' : Nat → Nat → Prop} {w'' : World} (h : Mono ρ σ w ρ' σ' w') (g : Mono ρ' σ' w' ρ'' σ'' w'') : Mono ρ σ w ρ'' σ'' w'' :=
 ⟨h.toKeeps.trans g.toKeeps, fun b β x => g.phi b β (h.phi b β x), Nat.le_trans h.no g.no, fun i ow l x => by
  obtain ⟨y, hy⟩ := g.own i ow (Nat.lt_of_lt_of_le l h.no) x
  obtain ⟨z, hz⟩ := h.own i ow l y
  exact ⟨z, fun β e => ⟨fun o x => (hz β e).1 o ((hy β e).1 o x), fun cs t f x => (hy β e).2 cs t f ((hz β e).2 cs t f x)⟩⟩, g.fr.trans h.fr⟩
theorem Tip.mono {t : Ty} {l : List (El t)} {ow : Option Nat} {v : Value} (h : Keeps σ σ' w w') (g : ∀ β, ow = some β → (∀ o, σ' β o → σ β o) ∧ (∀ cs e f, w.heap[β]? = some (.cells cs e f) → w'.heap[β]? = some (.cells cs e f)))
  (k : Tip σ w base t l ow v) : Tip σ' w' base t l ow v := by
 obtain ⟨e, ty, cs, ho, hr, hs⟩ := k
 refine ⟨e, ty, cs, ⟨ho.1, ho.2.imp id ?_⟩, RLs.mono (fun _ _ => RE.mono h) hr, fun β hb o => ⟨fun x => (hs β hb o).1 ((g β hb).1 o x), fun x => h.sig _ _ ((hs β hb o).2 x)⟩⟩
 rintro ⟨b, cap, cur, hv, h1, h2, h3⟩
 exact ⟨b, cap, cur, hv, h1, (g b (by rw [← e, hv]; rfl)).2 _ _ _ h2, h3⟩
mutual
theorem RA.mono (h : Mono ρ σ w ρ' σ' w') : ∀ (a : AV) {v : Value}, RA ρ base σ w a v → RA ρ' base σ' w' a v
 | .int _ _, _, g => g
 | .bool _ _, _, g => g
 | .str _, _, g => g
 | .sl o t l, _, g => ⟨RE.mono h.toKeeps g.1, fun i e => ⟨Nat.lt_of_lt_of_le (g.2 i e).1 h.no, fun ow x => ((g.2 i e).2 ow (h.own i ow (g.2 i e).1 x).1).mono h.toKeeps (h.own i ow (g.2 i e).1 x).2⟩⟩
 | .nilsl, _, g => g
 | .ptr b off, _, ⟨β, e, g⟩ => ⟨β, h.phi _ _ e, g⟩
 | .nilp, _, g => g
 | .elp t x off, _, ⟨β, o, vs, e, g, k⟩ => ⟨β, o, vs, e, RE.mono h.toKeeps g, k.mono h.toKeeps⟩
 | .fn f caps, _, ⟨vs, e, g⟩ => ⟨vs, e, RAs.mono h caps g⟩
 | .mp b, _, ⟨β, e, g⟩ => ⟨β, h.phi _ _ e, g⟩
 | .keys .., _, g => g.elim
 | .itr .., _, g => g.elim
 | .row .., _, g => g.elim
 | .bld .., _, g => g.elim
 | .bld0 .., _, g => g.elim
 | .emp _, _, g => g
 | .ms b sz off n, _, ⟨A, cap, e, hc, g⟩ => ⟨A, cap, e, hc, g.imp id fun ⟨β, o, e2, k⟩ => ⟨β, o, e2, k.imp id fun k => ⟨h.phi _ _ k.1, k.2⟩⟩⟩
 | .mse b sz off, _, ⟨β, e, g⟩ => ⟨β, h.phi _ _ e, g⟩
 | .agg cs, _, ⟨vs, e, g⟩ => ⟨vs, e, RAs.mono h cs g⟩
 | .tup cs, _, ⟨vs, e, g⟩ => ⟨vs, e, RAs.mono h cs g⟩
 | .junk, _, g => g
theorem RAs.mono (h : Mono ρ σ w ρ' σ' w') : ∀ (as : List AV) {vs : List Value}, RAs ρ base σ w as vs → RAs ρ' base σ' w' as vs
 | [], _, g => g
 | a :: as, _, ⟨v, r, e, g, k⟩ => ⟨v, r, e, RA.mono h a g, RAs.mono h as k⟩
end
theorem RAs.length : ∀ {as : List AV} {vs : List Value}, RAs ρ base σ w as vs → vs.length = as.length
 | [], _, h => by rw [h]; rfl
 | _ :: _, _, ⟨v, r, e, _, k⟩ => by rw [e, List.length_cons, List.length_cons, RAs.length k]
theorem RAs.get : ∀ {as : List AV} {vs : List Value} {i : Nat} {a : AV}, RAs ρ base σ w as vs → as[i]? = some a → ∃ v, vs[i]? = some v ∧ RA ρ base σ w a v
 | [], _, _, _, _, h => by simp at h
 | x :: as, _, 0, a, ⟨v, r, e, g, k⟩, h => by simp at h; subst h; exact ⟨v, by rw [e]; rfl, g⟩
 | x :: as, _, i + 1, a, ⟨v, r, e, g, k⟩, h => by
  obtain ⟨u, hu, g'⟩ := RAs.get k (by simpa using h)
  exact ⟨u, by rw [e]; simpa using hu, g'⟩
theorem RAs.mk : ∀ {as : List AV} {vs : List Value}, vs.length = as.length → (∀ (i : Nat) a v, as[i]? = some a → vs[i]? = some v → RA ρ base σ w a v) → RAs ρ base σ w as vs
 | [], [], _, _ => rfl
 | a :: as, v :: vs, hl, h => ⟨v, vs, rfl, h 0 a v rfl rfl, RAs.mk (by simpa using hl) fun i a v x y => h (i + 1) a v (by simpa using x) (by simpa using y)⟩
theorem RAs.append : ∀ {a b : List AV} {u v : List Value}, RAs ρ base σ w a u → RAs ρ base σ w b v → RAs ρ base σ w (a ++ b) (u ++ v)
 | [], _, _, _, h, g => by rw [h]; exact g
 | _ :: _, _, _, _, ⟨x, r, e, h, k⟩, g => ⟨x, r ++ _, by rw [e]; rfl, h, RAs.append k g⟩
theorem RAs.take {as : List AV} {vs : List Value} (h : RAs ρ base σ w as vs) (n : Nat) : RAs ρ base σ w (as.take n) (vs.take n) :=
 RAs.mk (by simp [h.length]) fun i a v x y => by
  rw [List.getElem?_take] at x y
  by_cases hi : i < n
  ·rw [if_pos hi] at x y
   obtain ⟨u, hu, g⟩ := h.get x
   rw [hu] at y; obtain rfl := Option.some.inj y; exact g
  ·rw [if_neg hi] at x; cases x
theorem RAs.drop {as : List AV} {vs : List Value} (h : RAs ρ base σ w as vs) (n : Nat) : RAs ρ base σ w (as.drop n) (vs.drop n) :=
 RAs.mk (by simp [h.length]) fun i a v x y => by
  rw [List.getElem?_drop] at x y
  obtain ⟨u, hu, g⟩ := h.get x
  rw [hu] at y; obtain rfl := Option.some.inj y; exact g
theorem RAs.set {as : List AV} {vs : List Value} (h : RAs ρ base σ w as vs) (n : Nat) {a : AV} {v : Value} (g : RA ρ base σ w a v) : RAs ρ base σ w (as.set n a) (vs.set n v) :=
 RAs.mk (by simp [h.length]) fun i b u x y => by
  rw [List.getElem?_set] at x y
  by_cases hi : n = i
  ·subst hi
   rw [if_pos rfl] at x y
   split at x <;> simp at x
   split at y <;> simp at y
   subst x; subst y; exact g
  ·rw [if_neg hi] at x y
   obtain ⟨u', hu, g'⟩ := h.get x
   rw [hu] at y; obtain rfl := Option.some.inj y; exact g'
theorem RAs.getD {as : List AV} {vs : List Value} (h : RAs ρ base σ w as vs) (n : Nat) : RA ρ base σ w (as.getD n .junk) (vs.getD n undef) := by
 rw [List.getD_eq_getElem?_getD, List.getD_eq_getElem?_getD]
 cases hx : as[n]? with
 | none => exact trivial
 | some a => obtain ⟨v, hv, g⟩ := h.get hx; rw [hv]; exact g
theorem RA.one {a : AV} {v : Value} (ha : a.leaf = true) (h : RA ρ base σ w a v) : v.oneCell' = true ∧ v.cells = #[v] := by
 cases a <;> simp only [AV.leaf] at ha <;> try (exact absurd ha (by decide))
 case int k n => rw [show v = _ from h]; exact ⟨rfl, rfl⟩
 case bool p d => rw [show v = _ from h]; exact ⟨rfl, rfl⟩
 case str s => rw [show v = _ from h]; exact ⟨rfl, rfl⟩
 case sl o t l => obtain ⟨A, c, e, _⟩ := h.1; simp only [List.cons.injEq, and_true] at e; rw [e]; exact ⟨rfl, rfl⟩
 case nilsl => rw [show v = _ from h]; exact ⟨rfl, rfl⟩
 case ptr b o => obtain ⟨β, _, e⟩ := h; rw [e]; exact ⟨rfl, rfl⟩
 case nilp => rw [show v = _ from h]; exact ⟨rfl, rfl⟩
 case mp b => obtain ⟨β, _, e⟩ := h; rw [e]; exact ⟨rfl, rfl⟩
 case ms b sz off n => obtain ⟨A, cap, e, _⟩ := h; rw [e]; exact ⟨rfl, rfl⟩
 case mse b sz off => obtain ⟨β, _, e⟩ := h; rw [e]; exact ⟨rfl, rfl⟩
 case emp t => obtain ⟨A, e, _⟩ := h; rw [e]; exact ⟨rfl, rfl⟩
 case elp t x o => obtain ⟨β, _, _, e, _⟩ := h; rw [e]; exact ⟨rfl, rfl⟩
 case fn f c => obtain ⟨vs, e, _⟩ := h; rw [e]; exact ⟨rfl, rfl⟩
theorem RA.cells {a : AV} {v : Value} (ha : a.cells.all AV.leaf = true) (h : RA ρ base σ w a v) : RAs ρ base σ w a.cells v.cells.toList := by
 cases a with
 | agg cs => obtain ⟨vs, e, g⟩ := h; rw [e]; exact g
 | tup cs => simp [AV.cells, AV.leaf] at ha
 | junk => simp [AV.cells, AV.leaf] at ha
 | keys k e t l => simp [AV.cells, AV.leaf] at ha
 | itr s p => simp [AV.cells, AV.leaf] at ha
 | row t l => simp [AV.cells, AV.leaf] at ha
 | bld i T l => simp [AV.cells, AV.leaf] at ha
 | bld0 e => simp [AV.cells, AV.leaf] at ha
 | int | bool | str | sl | nilsl | ptr | nilp | elp | fn | mp | ms | mse | emp =>
  have := RA.one rfl h
  rw [this.2]
  exact ⟨v, [], rfl, h, rfl⟩
theorem RE.ra : ∀ {t : Ty} {x : El t} {vs : List Value}, RE σ w t x vs → RAs ρ base σ w (enc t x) vs
 | .int _, _, _, g => ⟨_, [], g, rfl, rfl⟩
 | .bool, b, _, g => ⟨_, [], g, by show _ = Value.bool (decide (b = true)); rw [Bool.decide_eq_true], rfl⟩
 | .str, _, _, g => ⟨_, [], g, rfl, rfl⟩
 | .unit, _, _, g => g
 | .pair _ _, _, _, ⟨u, v, e, g, k⟩ => by rw [e]; exact RAs.append (RE.ra g) (RE.ra k)
 | .sl t, l, _, ⟨A, c, e, g, k⟩ => ⟨_, [], e, ⟨⟨A, c, rfl, g, k⟩, fun i h => by cases h⟩, rfl⟩
theorem dec_sound : ∀ {t : Ty} {as : List AV} {x : El t} {r : List AV} {vs : List Value}, dec t as = some (x, r) → RAs ρ base σ w as vs → ∃ u v, vs = u ++ v ∧ RE σ w t x u ∧ RAs ρ base σ w r v
 | .int k, .int l n :: as, x, r, vs, h, g => by
  simp only [dec] at h
  split at h
  ·rename_i hk; subst hk
   simp only [Option.some.injEq, Prod.mk.injEq] at h
   obtain ⟨rfl, rfl⟩ := h
   obtain ⟨v, q, e, g1, g2⟩ := g
   exact ⟨[v], q, e, by rw [show v = _ from g1]; rfl, g2⟩
  ·cases h
 | .bool, .bool p d :: as, x, r, vs, h, g => by
  simp only [dec, Option.some.injEq, Prod.mk.injEq] at h
  obtain ⟨rfl, rfl⟩ := h
  obtain ⟨v, q, e, g1, g2⟩ := g
  exact ⟨[v], q, e, by rw [show v = _ from g1]; rfl, g2⟩
 | .str, .str s :: as, x, r, vs, h, g => by
  simp only [dec, Option.some.injEq, Prod.mk.injEq] at h
  obtain ⟨rfl, rfl⟩ := h
  obtain ⟨v, q, e, g1, g2⟩ := g
  exact ⟨[v], q, e, by rw [show v = _ from g1]; rfl, g2⟩
 | .unit, as, x, r, vs, h, g => by
  simp only [dec, Option.some.injEq, Prod.mk.injEq] at h
  obtain ⟨-, rfl⟩ := h
  exact ⟨[], vs, rfl, rfl, g⟩
 | .pair a b, as, x, r, vs, h, g => by
  simp only [dec] at h
  split at h
  ·cases h
  ·rename_i y r1 h1
   split at h
   ·cases h
   ·rename_i z r2 h2
    simp only [Option.some.injEq, Prod.mk.injEq] at h
    obtain ⟨rfl, rfl⟩ := h
    obtain ⟨u1, v1, rfl, k1, g1⟩ := dec_sound h1 g
    obtain ⟨u2, v2, rfl, k2, g2⟩ := dec_sound h2 g1
    exact ⟨u1 ++ u2, v2, by simp, ⟨u1, u2, rfl, k1, k2⟩, g2⟩
 | .sl t, .sl o t' l :: as, x, r, vs, h, g => by
  simp only [dec] at h
  split at h
  ·rename_i hp _
   cases hp
   simp only [Option.some.injEq, Prod.mk.injEq] at h
   obtain ⟨rfl, rfl⟩ := h
   obtain ⟨v, q, e, g1, g2⟩ := g
   exact ⟨[v], q, e, g1.1, g2⟩
  ·cases h
 | .sl t, .nilsl :: as, x, r, vs, h, g => by
  simp only [dec, Option.some.injEq, Prod.mk.injEq] at h
  obtain ⟨rfl, rfl⟩ := h
  obtain ⟨v, q, e, g1, g2⟩ := g
  exact ⟨[v], q, e, ⟨none, 0, by rw [show v = _ from g1]; rfl, Nat.le_refl _, .inl rfl⟩, g2⟩
 | .sl t, .emp _ :: as, x, r, vs, h, g => by
  simp only [dec, Option.some.injEq, Prod.mk.injEq] at h
  obtain ⟨rfl, rfl⟩ := h
  obtain ⟨v, q, e, ⟨A, g1, g3⟩, g2⟩ := g
  exact ⟨[v], q, e, ⟨A, 0, by rw [g1]; rfl, Nat.le_refl _, .inl rfl⟩, g2⟩
 | .int _, [], _, _, _, h, _ | .int _, .bool _ _ :: _, _, _, _, h, _ | .int _, .str _ :: _, _, _, _, h, _ | .int _, .sl _ _ _ :: _, _, _, _, h, _ | .int _, .nilsl :: _, _, _, _, h, _ | .int _, .ptr _ _ :: _, _, _, _, h, _ | .int _, .nilp :: _, _, _, _, h, _ | .int _, .elp _ _ _ :: _, _, _, _, h, _ | .int _, .fn _ _ :: _, _, _, _, h, _ | .int _, .agg _ :: _, _, _, _, h, _ | .int _, .tup _ :: _, _, _, _, h, _ | .int _, .junk :: _, _, _, _, h, _ => by simp [dec] at h
 | .bool, [], _, _, _, h, _ | .bool, .int _ _ :: _, _, _, _, h, _ | .bool, .str _ :: _, _, _, _, h, _ | .bool, .sl _ _ _ :: _, _, _, _, h, _ | .bool, .nilsl :: _, _, _, _, h, _ | .bool, .ptr _ _ :: _, _, _, _, h, _ | .bool, .nilp :: _, _, _, _, h, _ | .bool, .elp _ _ _ :: _, _, _, _, h, _ | .bool, .fn _ _ :: _, _, _, _, h, _ | .bool, .agg _ :: _, _, _, _, h, _ | .bool, .tup _ :: _, _, _, _, h, _ | .bool, .junk :: _, _, _, _, h, _ => by simp [dec] at h
 | .str, [], _, _, _, h, _ | .str, .int _ _ :: _, _, _, _, h, _ | .str, .bool _ _ :: _, _, _, _, h, _ | .str, .sl _ _ _ :: _, _, _, _, h, _ | .str, .nilsl :: _, _, _, _, h, _ | .str, .ptr _ _ :: _, _, _, _, h, _ | .str, .nilp :: _, _, _, _, h, _ | .str, .elp _ _ _ :: _, _, _, _, h, _ | .str, .fn _ _ :: _, _, _, _, h, _ | .str, .agg _ :: _, _, _, _, h, _ | .str, .tup _ :: _, _, _, _, h, _ | .str, .junk :: _, _, _, _, h, _ => by simp [dec] at h
 | .sl _, [], _, _, _, h, _ | .sl _, .int _ _ :: _, _, _, _, h, _ | .sl _, .bool _ _ :: _, _, _, _, h, _ | .sl _, .str _ :: _, _, _, _, h, _ | .sl _, .ptr _ _ :: _, _, _, _, h, _ | .sl _, .nilp :: _, _, _, _, h, _ | .sl _, .elp _ _ _ :: _, _, _, _, h, _ | .sl _, .fn _ _ :: _, _, _, _, h, _ | .sl _, .agg _ :: _, _, _, _, h, _ | .sl _, .tup _ :: _, _, _, _, h, _ | .sl _, .junk :: _, _, _, _, h, _ => by simp [dec] at h
end
set_option linter.unusedSimpArgs false
def mkD : Option TypeDesc → D
 | some (.int k) => .int k
 | some .bool => .bool
 | some .string => .str
 | some (.slice e) => .sl e
 | some (.array n e) => .arr n e
 | some (.struct fs) => .st (fs.toList.map fun f => (f.type, f.offset))
 | some (.map k e) => .map k e
 | some (.pointer _) | some (.func ..) | some (.chan ..) | some .unsafePointer | some (.interface _) | some (.float _) | some (.complex _) => .cell
 | _ => .other
def namesOk : Option TypeDesc → Bool
 | some (.struct fs) => fs.toList.all fun f => f.name != "_"
 | some (.pointer _) => true
 | _ => false
def isFalse : Value → Bool
 | .bool false => true
 | _ => false
def mkTI (P : Program) (t : TypeId) (I : TI) : TI :=
 match I.d with
 | .other => I
 | _ => match P.info? t with
  | some i => (match i.zero with
   | some z => ⟨mkD (P.underlying t), i.size, i.bytes, z.cells.toList.map ofLeaf, I.ty, I.eq && (if I.d.isBool then isFalse z else !P.stoodInHeld t && namesOk (P.underlying t))⟩
   | none => ⟨.other, 0, 0, [], none, false⟩)
  | none => ⟨.other, 0, 0, [], none, false⟩
def TabOk (P : Program) (T : List TI) : Prop := T.zipIdx.map (fun q => mkTI P q.2 q.1) = T
structure Known (P : Program) (t : TypeId) (I : TI) (i : TypeInfo) (z : Value) : Prop where
 info : P.info? t = some i
 zero : i.zero = some z
 desc : mkD (P.underlying t) = I.d
 size : i.size = I.size
 bytes : i.bytes = I.bytes
 cells : I.zero = z.cells.toList.map ofLeaf
 eq : I.eq = true → (if I.d.isBool then isFalse z else !P.stoodInHeld t && namesOk (P.underlying t)) = true
variable {P : Program} {R : Type}
theorem known {C : Ctx} (hT : TabOk P C.T) {t : TypeId} (h : (C.ti t).d ≠ .other) : ∃ i z, Known P t (C.ti t) i z := by
 unfold Ctx.ti at h ⊢
 rw [List.getD_eq_getElem?_getD] at h ⊢
 cases hI : C.T[t]? with
 | none => rw [hI] at h; exact absurd rfl h
 | some I =>
  rw [hI] at h
  have h1 : mkTI P t I = I := by
   have h2 : (C.T.zipIdx.map (fun q => mkTI P q.2 q.1))[t]? = C.T[t]? := by rw [hT]
   rw [List.getElem?_map, List.getElem?_zipIdx, hI] at h2
   simpa using h2
  simp only [Option.getD_some] at h ⊢
  unfold mkTI at h1
  split at h1
  ·rename_i hd; exact absurd hd h
  ·split at h1
   ·rename_i i hi
    split at h1
    ·rename_i z hz
     refine ⟨i, z, hi, hz, ?_, ?_, ?_, ?_, fun he => ?_⟩
     iterate 4 rw [← h1]
     rw [← h1] at he
     exact (Bool.and_eq_true_iff.1 he).2
    ·exact absurd (by rw [← h1]) h
   ·exact absurd (by rw [← h1]) h
theorem Known.sizeOf {t : TypeId} {I : TI} {i : TypeInfo} {z : Value} (k : Known P t I i z) (w : World) : (Go.sizeOf t).run P w = .ok I.size w := by
 simp [Go.sizeOf, typeInfo, k.info, k.size]
theorem Known.zeroValue {t : TypeId} {I : TI} {i : TypeInfo} {z : Value} (k : Known P t I i z) (w : World) : (Go.zeroValue t).run P w = .ok z w := by
 simp [Go.zeroValue, typeInfo, k.info, k.zero]
theorem und_int {u : Option TypeDesc} {k : IntKind} (h : mkD u = .int k) : u = some (.int k) := by unfold mkD at h; split at h <;> first | (cases h; done) | (cases h; rfl)
theorem und_bool {u : Option TypeDesc} (h : mkD u = .bool) : u = some .bool := by unfold mkD at h; split at h <;> first | (cases h; done) | (cases h; rfl)
theorem und_str {u : Option TypeDesc} (h : mkD u = .str) : u = some .string := by unfold mkD at h; split at h <;> first | (cases h; done) | (cases h; rfl)
theorem und_sl {u : Option TypeDesc} {e : TypeId} (h : mkD u = .sl e) : u = some (.slice e) := by unfold mkD at h; split at h <;> first | (cases h; done) | (cases h; rfl)
theorem und_arr {u : Option TypeDesc} {n : Nat} {e : TypeId} (h : mkD u = .arr n e) : u = some (.array n e) := by unfold mkD at h; split at h <;> first | (cases h; done) | (cases h; rfl)
theorem und_st {u : Option TypeDesc} {fs : List (TypeId × Nat)} (h : mkD u = .st fs) : ∃ f, u = some (.struct f) ∧ f.toList.map (fun x => (x.type, x.offset)) = fs := by
 unfold mkD at h; split at h <;> first | (cases h; done) | (cases h; exact ⟨_, rfl, rfl⟩)
theorem isAgg_of {I : TI} {t : TypeId} (hd : mkD (P.underlying t) = I.d) (ho : I.d ≠ .other) (w : World) : (Go.isAgg t).run P w = .ok I.d.isAgg w := by
 rw [← hd] at ho ⊢
 cases hu : P.underlying t with
 | none => rw [hu] at ho; exact absurd rfl ho
 | some u => cases u <;> simp [hu, mkD, D.isAgg] at ho ⊢ <;> simp [Go.isAgg, run_underlying hu]
variable {ρ : Env} {base : Nat} {σ : Nat → Nat → Prop} {w : World}
theorem RA.ofLeaf (v : Value) : RA ρ base σ w (ofLeaf v) v := by
 unfold Xe.ofLeaf
 split
 ·show _ = Value.bool (decide _); rw [Bool.decide_eq_true]
 ·rfl
 ·rfl
 ·rfl
 ·rfl
 ·trivial
theorem RAs.ofLeaf : ∀ (l : List Value), RAs ρ base σ w (l.map Xe.ofLeaf) l
 | [] => rfl
 | v :: l => ⟨v, l, rfl, RA.ofLeaf v, RAs.ofLeaf l⟩
theorem RA.ofV (v : Value) : RA ρ base σ w (ofV v) v := by
 unfold Xe.ofV
 split
 ·exact ⟨_, rfl, RAs.ofLeaf _⟩
 ·exact ⟨_, rfl, RAs.ofLeaf _⟩
 ·exact RA.ofLeaf _
def RP (σ : Nat → Nat → Prop) (w : World) (t : Ty) (x : El t) (v : Value) : Prop := ∃ β o vs, v = .pointer (some ⟨β, o, none⟩) ∧ RE σ w t x vs ∧ Cs σ w β o vs
def RPs (σ : Nat → Nat → Prop) (w : World) : (l : List Ty) → El (tysOf l) → List Value → Prop
 | [], _, vs => vs = []
 | [t], x, vs => ∃ v, vs = [v] ∧ RP σ w t x v
 | t :: r :: l, x, vs => ∃ v q, vs = v :: q ∧ RP σ w t x.1 v ∧ RPs σ w (r :: l) x.2 q
def R1 (σ : Nat → Nat → Prop) (w : World) : (s : Shp) → El s.ty → Value → Prop
 | .v t, x, v => RE σ w t x [v]
 | .a t, x, v => ∃ cs, v = .agg cs ∧ RE σ w t x cs.toList
 | .p t, x, v => RP σ w t x v
 | .fn f l, x, v => ∃ vs, v = .func (.func f) #[] vs ∧ RPs σ w l x vs.toList
theorem decP_sound {t : Ty} {a : AV} {x : El t} {v : Value} (h : decP t a = some x) (g : RA ρ base σ w a v) : RP σ w t x v := by
 unfold decP at h
 split at h
 ·split at h
  ·rename_i hp _
   cases hp
   obtain rfl := Option.some.inj h
   obtain ⟨β, o, vs, e, k1, k2⟩ := g
   exact ⟨β, o, vs, e, k1, k2⟩
  ·cases h
 ·cases h
theorem decPs_sound : ∀ {l : List Ty} {as : List AV} {x : El (tysOf l)} {vs : List Value}, decPs l as = some x → RAs ρ base σ w as vs → RPs σ w l x vs
 | [], [], x, vs, h, g => g
 | [t], [a], x, vs, h, ⟨v, r, e, g, k⟩ => ⟨v, by rw [e, show r = [] from k], decP_sound h g⟩
 | t :: r :: l, a :: as, x, vs, h, ⟨v, q, e, g, k⟩ => by
  simp only [decPs] at h
  split at h
  ·rename_i y z hy hz
   obtain rfl := Option.some.inj h
   exact ⟨v, q, e, decP_sound hy g, decPs_sound hz k⟩
  ·cases h
 | [], _ :: _, _, _, h, _ => by simp [decPs] at h
 | [_], [], _, _, h, _ => by simp [decPs] at h
 | [_], _ :: _ :: _, _, _, h, _ => by simp [decPs] at h
 | _ :: _ :: _, [], _, _, h, _ => by simp [decPs] at h
theorem RP.ra {t : Ty} {x : El t} {v : Value} (h : RP σ w t x v) : RA ρ base σ w (.elp t x 0) v := h
theorem RPs.ra : ∀ {l : List Ty} {x : El (tysOf l)} {vs : List Value}, RPs σ w l x vs → RAs ρ base σ w (encPs l x) vs
 | [], _, _, h => h
 | [t], x, _, ⟨v, e, h⟩ => ⟨v, [], e, RP.ra h, rfl⟩
 | t :: r :: l, x, _, ⟨v, q, e, h, k⟩ => ⟨v, q, e, RP.ra h, RPs.ra k⟩
def RS (σ : Nat → Nat → Prop) (w : World) : (sg : List Shp) → El (sgTy sg) → List Value → Prop
 | [], _, vs => vs = []
 | [s], x, vs => ∃ v, vs = [v] ∧ R1 σ w s x v
 | s :: r :: l, x, vs => ∃ v q, vs = v :: q ∧ R1 σ w s x.1 v ∧ RS σ w (r :: l) x.2 q
def RR (σ : Nat → Nat → Prop) (w : World) : (rs : Rs) → El rs.ty → Value → Prop
 | .one s, x, v => R1 σ w s x v
 | .tup l, x, v => ∃ vs, v = .tuple vs ∧ RS σ w l x vs.toList
theorem dec1_sound {s : Shp} {a : AV} {x : El s.ty} {v : Value} (h : dec1 s a = some x) (g : RA ρ base σ w a v) : R1 σ w s x v := by
 cases s with
 | v t =>
  simp only [dec1] at h
  split at h
  ·rename_i y hy
   obtain rfl := Option.some.inj h
   obtain ⟨u, q, e, k, k2⟩ := dec_sound hy (show RAs ρ base σ w [a] [v] from ⟨v, [], rfl, g, rfl⟩)
   have hq : q = [] := k2
   rw [hq, List.append_nil] at e
   subst e
   exact k
  ·cases h
 | a t =>
  cases a with
  | agg cs =>
   simp only [dec1] at h
   split at h
   ·rename_i y hy
    obtain rfl := Option.some.inj h
    obtain ⟨vs, rfl, g'⟩ := g
    obtain ⟨u, q, e, k, k2⟩ := dec_sound hy g'
    have hq : q = [] := k2
    rw [hq, List.append_nil] at e
    exact ⟨vs, rfl, by rw [e]; exact k⟩
   ·cases h
  | _ => cases h
 | p t => exact decP_sound h g
 | fn f l =>
  cases a with
  | fn g' caps =>
   simp only [dec1] at h
   split at h
   ·rename_i hf
    obtain ⟨vs, e, k⟩ := g
    exact ⟨vs, by rw [e, hf], decPs_sound h k⟩
   ·cases h
  | _ => cases h
theorem decs_sound : ∀ {sg : List Shp} {as : List AV} {x : El (sgTy sg)} {vs : List Value}, decs sg as = some x → RAs ρ base σ w as vs → RS σ w sg x vs
 | [], [], x, vs, h, g => g
 | [s], [a], x, vs, h, ⟨v, r, e, g, k⟩ => ⟨v, by rw [e, show r = [] from k], dec1_sound h g⟩
 | s :: r :: l, a :: as, x, vs, h, ⟨v, q, e, g, k⟩ => by
  simp only [decs] at h
  split at h
  ·rename_i y z hy hz
   obtain rfl := Option.some.inj h
   exact ⟨v, q, e, dec1_sound hy g, decs_sound hz k⟩
  ·cases h
 | [], _ :: _, _, _, h, _ => by simp [decs] at h
 | [_], [], _, _, h, _ => by simp [decs] at h
 | [_], _ :: _ :: _, _, _, h, _ => by simp [decs] at h
 | _ :: _ :: _, [], _, _, h, _ => by simp [decs] at h
theorem R1.ra {s : Shp} {x : El s.ty} {v : Value} (h : R1 σ w s x v) : RA ρ base σ w (enc1 s x) v := by
 cases s with
 | v t =>
  have g := RE.ra (ρ := ρ) (base := base) h
  cases he : enc t x with
  | nil => rw [he] at g; cases g
  | cons a l =>
   rw [he] at g
   obtain ⟨u, r, e, k, k2⟩ := g
   simp only [List.cons.injEq] at e
   obtain ⟨rfl, -⟩ := e
   simp only [enc1, he, List.headD_cons]; exact k
 | a t => obtain ⟨cs, rfl, g⟩ := h; exact ⟨cs, rfl, RE.ra g⟩
 | p t => exact RP.ra h
 | fn f l => obtain ⟨vs, e, g⟩ := h; exact ⟨vs, e, RPs.ra g⟩
theorem RS.ra : ∀ {sg : List Shp} {x : El (sgTy sg)} {vs : List Value}, RS σ w sg x vs → RAs ρ base σ w (encs sg x) vs
 | [], _, _, h => h
 | [s], x, _, ⟨v, e, h⟩ => ⟨v, [], e, R1.ra h, rfl⟩
 | s :: r :: l, x, _, ⟨v, q, e, h, k⟩ => ⟨v, q, e, R1.ra h, RS.ra k⟩
theorem RR.ra {rs : Rs} {x : El rs.ty} {v : Value} (h : RR σ w rs x v) : RA ρ base σ w (encR rs x) v := by
 cases rs with
 | one s => exact R1.ra h
 | tup l => obtain ⟨vs, e, g⟩ := h; exact ⟨vs, e, RS.ra g⟩
theorem decR_sound {rs : Rs} {a : AV} {x : El rs.ty} {v : Value} (h : decR rs a = some x) (g : RA ρ base σ w a v) : RR σ w rs x v := by
 cases rs with
 | one s => exact dec1_sound h g
 | tup l =>
  cases a with
  | tup as => obtain ⟨vs, e, k⟩ := g; exact ⟨vs, e, decs_sound h k⟩
  | _ => cases h
structure Grow (σ : Nat → Nat → Prop) (w : World) (σ' : Nat → Nat → Prop) (w' : World) : Prop where
 below : Below w.heap.size w w'
 sig : ∀ b o, σ b o → σ' b o
 new : ∀ b o, σ' b o → σ b o ∨ w.heap.size ≤ b
 lt : ∀ b o, σ' b o → b < w'.heap.size
def Fits (σ : Nat → Nat → Prop) (w : World) : Prop := ∀ b o, σ b o → b < w.heap.size
theorem Grow.refl (h : Fits σ w) : Grow σ w σ w := ⟨Below.refl _ _, fun _ _ h => h, fun _ _ h => .inl h, h⟩
theorem Grow.keeps {σ' : Nat → Nat → Prop} {w' : World} (h : Fits σ w) (g : Grow σ w σ' w') : Keeps σ σ' w w' :=
 ⟨g.sig, fun b o v hs hc => by rw [g.below.cell (h b o hs)]; exact hc⟩
structure ConOk (P : Program) (c : Con) : Prop where
 there : ∃ fn, P.funcs[c.id]? = some fn ∧ fn.body.isSome = true ∧ (fn.name == "runtime.NumGoroutine") = false
 calls : ∀ a b, c.f a = some b → ∀ (σ : Nat → Nat → Prop) (w : World) (vs : List Value), Fits σ w → RS σ w c.sg a vs →
  Calls P c.id vs.toArray w fun e w' => ∃ v σ', e = .returned v ∧ Grow σ w σ' w' ∧ RR σ' w' c.rs b v
theorem run_callFunc {f : FuncId} (h : ∃ fn, P.funcs[f]? = some fn ∧ fn.body.isSome = true ∧ (fn.name == "runtime.NumGoroutine") = false) (vs : Array Value) (w : World) : (callFunc f vs).run P w = .ok (.enter f vs) w := by
 obtain ⟨fn, h1, h2, h3⟩ := h
 have h4 : fn.body ≠ none := fun e => by rw [e] at h2; cases h2
 have h5 : fn.name ≠ "runtime.NumGoroutine" := fun e => by rw [e] at h3; cases h3
 simp [callFunc, h1, h5, h4]
variable {P : Program} {R : Type} {ρ : Env} {base : Nat} {σ : Nat → Nat → Prop} {w : World} {r : R} {K : AV → Option R}
theorem beq_bytes (x y : ByteArray) : (x.toList == y.toList) = decide (x = y) := by
 rw [ByteArray.toList_eq, ByteArray.toList_eq]
 obtain ⟨⟨x⟩⟩ := x
 obtain ⟨⟨y⟩⟩ := y
 exact Bool.eq_iff_iff.2 (by simp)
def Yields (P : Program) (ρ : Env) (base : Nat) (σ : Nat → Nat → Prop) (w : World) (K : AV → Option R) (r : R) (s : Sem Value) : Prop :=
 ∃ av v, s.run P w = .ok v w ∧ K av = some r ∧ RA ρ base σ w av v
theorem yields_pure {av : AV} {v : Value} (h : K av = some r) (g : RA ρ base σ w av v) : Yields P ρ base σ w K r (pure v) := ⟨av, v, rfl, h, g⟩
theorem yields_of {s : Sem Value} {av : AV} {v : Value} (e : s.run P w = .ok v w) (h : K av = some r) (g : RA ρ base σ w av v) : Yields P ρ base σ w K r s := ⟨av, v, e, h, g⟩
theorem bop_sound {op : BinOp} {k : IntKind} {x y : Int} {t : TypeId} (h : bop op k x y K = some r) (hs : op ≠ .shl) (hs' : op ≠ .shr) : Yields P ρ base σ w K r (binOp op t (.int k x) (.int k y)) := by
 cases op <;> simp only [bop] at h <;> try (cases h; done)
 case add => rw [binOp_add]; exact yields_pure h rfl
 case sub => rw [binOp_sub]; exact yields_pure h rfl
 case mul => rw [binOp_mul]; exact yields_pure h rfl
 case quo =>
  split at h
  ·cases h
  ·rename_i hy; rw [binOp_quo]; simp only [Op.intDiv, if_neg hy]; exact yields_pure h rfl
 case rem =>
  split at h
  ·cases h
  ·rename_i hy; rw [binOp_rem]; simp only [Op.intDiv, if_neg hy]; exact yields_pure h rfl
 case and => rw [binOp_and]; exact yields_pure h rfl
 case or => rw [binOp_or]; exact yields_pure h rfl
 case xor => rw [binOp_xor]; exact yields_pure h rfl
 case andNot => rw [binOp_andNot]; exact yields_pure h rfl
 case eql => rw [binOp_eql]; exact yields_pure h (by show Value.bool _ = Value.bool _; congr 1)
 case neq => rw [binOp_neq]; exact yields_pure h (by show Value.bool _ = Value.bool _; congr 1; by_cases e : x = y <;> simp [e])
 case lss => rw [binOp_lss]; exact yields_pure h rfl
 case leq => rw [binOp_leq]; exact yields_pure h rfl
 case gtr => rw [binOp_gtr]; exact yields_pure h rfl
 case geq => rw [binOp_geq]; exact yields_pure h rfl
theorem shop_sound {op : BinOp} {k l : IntKind} {x y : Int} {t : TypeId} (h : shop op k x y K = some r) : Yields P ρ base σ w K r (binOp op t (.int k x) (.int l y)) := by
 cases op <;> simp only [shop] at h <;> try (cases h; done)
 all_goals
  split at h
  ·cases h
  ·rename_i hy
   first | rw [binOp_shl] | rw [binOp_shr]
   simp only [Op.shift, if_neg hy]
   exact yields_pure h rfl
theorem sop_sound {op : BinOp} {x y : ByteArray} {t : TypeId} (h : sop op x y K = some r) : Yields P ρ base σ w K r (binOp op t (.string x) (.string y)) := by
 cases op <;> simp only [sop] at h <;> try (cases h; done)
 case add =>
  obtain ⟨z, hz, h⟩ := Option.bind_eq_some_iff.1 h
  unfold scat at hz
  split at hz
  ·rename_i hle
   obtain rfl := Option.some.inj hz
   refine yields_of ?_ h rfl
   have : ¬ (((x.size + y.size : Nat) : Int) > 9223372036854775807) := by omega
   simp only [binOp, Op.stringOp, IntKind.max_i64, if_neg this]
   rfl
  ·cases hz
 case eql => exact yields_of rfl h (by show Value.bool _ = Value.bool _; rw [beq_bytes])
 case neq => exact yields_of rfl h (by show Value.bool _ = Value.bool _; rw [beq_bytes]; by_cases e : x = y <;> simp [e])
theorem part_one {I : TI} {t : TypeId} {cs : Array Value} {off : Nat} {v : Value} (hd : mkD (P.underlying t) = I.d) (hs : I.d.scal = true) (hv : cs[off]? = some v) : (part t cs off).run P w = .ok v w := by
 have h1 := isAgg_of (P := P) hd (by intro e; rw [e] at hs; cases hs) w
 have h2 : I.d.isAgg = false := by
  cases h : I.d <;> rw [h] at hs <;> first | rfl | cases hs
 rw [h2] at h1
 simp [part, h1, hv]
inductive Sc : D → AV → AV → Prop
 | int (k0 k : IntKind) (x y : Int) : Sc (.int k0) (.int k x) (.int k y)
 | bool (p : Prop) (d : Decidable p) (q : Prop) (e : Decidable q) : Sc .bool (.bool p d) (.bool q e)
 | str (x y : ByteArray) : Sc .str (.str x) (.str y)
theorem sc_of {D0 : D} {ds : List D} {a b : AV} {as bs : List AV} {z : Σ' p : Prop, Decidable p} (h : same (D0 :: ds) (a :: as) (b :: bs) = some z) : Sc D0 a b := by
 cases D0 with
 | int k0 =>
  cases a with
  | int k x =>
   cases b with
   | int l y =>
    simp only [same] at h
    split at h
    ·rename_i hk; subst hk; exact .int ..
    ·cases h
   | _ => exact absurd h (by simp [same])
  | _ => exact absurd h (by simp [same])
 | bool =>
  cases a with
  | bool p d =>
   cases b with
   | bool q e => exact .bool ..
   | _ => exact absurd h (by simp [same])
  | _ => exact absurd h (by simp [same])
 | str =>
  cases a with
  | str x =>
   cases b with
   | str y => exact .str ..
   | _ => exact absurd h (by simp [same])
  | _ => exact absurd h (by simp [same])
 | _ => exact absurd h (by simp [same])
theorem scal_eq {D0 : D} {t : TypeId} (d : Nat) (hd : mkD (P.underlying t) = D0) {a b : AV} {u v : Value} {p : Prop} {dp : Decidable p} (h : same [D0] [a] [b] = some ⟨p, dp⟩) (ga : RA ρ base σ w a u) (gb : RA ρ base σ w b v) :
  (Op.equalIn (d + 1) t u v).run P w = .ok (@decide p dp) w ∧ D0.scal = true := by
 have hs := sc_of h
 cases hs
 case int k0 k x y =>
  simp only [same, if_true] at h
  cases h
  rw [show u = _ from ga, show v = _ from gb, run_equalIn_int w d t k k0 x y (und_int hd)]
  exact ⟨by congr 1; by_cases e : x = y <;> simp [e], rfl⟩
 case bool p1 d1 q1 e1 =>
  simp only [same] at h
  cases h
  rw [show u = _ from ga, show v = _ from gb, run_equalIn_bool' w d t _ _ (und_bool hd)]
  exact ⟨by congr 1; by_cases e : @decide p1 d1 = @decide q1 e1 <;> simp [e], rfl⟩
 case str x y =>
  simp only [same] at h
  cases h
  rw [show u = _ from ga, show v = _ from gb, run_equalIn_string w d t x y (und_str hd), beq_bytes]
  exact ⟨by congr 1; by_cases e : x = y <;> simp [e], rfl⟩
theorem same_cons {D0 : D} {ds : List D} {a b : AV} {as bs : List AV} {p : Prop} {dp : Decidable p} (h : same (D0 :: ds) (a :: as) (b :: bs) = some ⟨p, dp⟩) :
  ∃ p1 d1 p2 d2, same [D0] [a] [b] = some ⟨p1, d1⟩ ∧ same ds as bs = some ⟨p2, d2⟩ ∧ @decide p dp = (@decide p1 d1 && @decide p2 d2) := by
 have hs := sc_of h
 cases hs
 case int k0 k x y =>
  simp only [same, if_true] at h ⊢
  split at h
  ·rename_i p2 d2 h2
   cases h
   exact ⟨_, _, p2, d2, rfl, h2, by by_cases e : x = y <;> by_cases f : p2 <;> simp [e, f]⟩
  ·cases h
 case bool p1 d1 q1 e1 =>
  simp only [same] at h ⊢
  split at h
  ·rename_i p2 d2 h2
   cases h
   exact ⟨_, _, p2, d2, rfl, h2, by by_cases e : @decide p1 d1 = @decide q1 e1 <;> by_cases f : p2 <;> simp [e, f]⟩
  ·cases h
 case str x y =>
  simp only [same] at h ⊢
  split at h
  ·rename_i p2 d2 h2
   cases h
   exact ⟨_, _, p2, d2, rfl, h2, by by_cases e : x = y <;> by_cases f : p2 <;> simp [e, f]⟩
  ·cases h
theorem fields_eq {C : Ctx} (hT : TabOk P C.T) (d : Nat) (xs ys : Array Value) : ∀ (fs : List Field) (k : Nat) (as bs : List AV) (p : Prop) (dp : Decidable p),
  same (fs.map fun f => (C.ti f.type).d) as bs = some ⟨p, dp⟩ → RAs ρ base σ w as (xs.toList.drop k) → RAs ρ base σ w bs (ys.toList.drop k) → fs.map (·.offset) = List.range' k fs.length → (∀ f ∈ fs, f.name ≠ "_") →
  (Op.eqFields (d + 1) xs ys fs).run P w = .ok (@decide p dp) w
 | [], k, as, bs, p, dp, h, _, _, _, _ => by
  cases as <;> cases bs <;> simp only [List.map_nil, same] at h <;> cases h
  rfl
 | f :: fs, k, [], bs, p, dp, h, _, _, _, _ => by simp [same] at h
 | f :: fs, k, a :: as, [], p, dp, h, _, _, _, _ => by simp [same] at h
 | f :: fs, k, a :: as, b :: bs, p, dp, h, ga, gb, ho, hn => by
  obtain ⟨p1, d1, p2, d2, h1, h2, he⟩ := same_cons h
  obtain ⟨u, us, eu, gu, gus⟩ := ga
  obtain ⟨v, vs, ev, gv, gvs⟩ := gb
  simp only [List.map_cons, List.length_cons, List.range'_succ, List.cons.injEq] at ho
  obtain ⟨ho1, ho2⟩ := ho
  have h1 : same [(C.ti f.type).d] [a] [b] = some ⟨p1, d1⟩ := h1
  have hne : (C.ti f.type).d ≠ .other := fun e => by rw [e] at h1; cases a <;> cases b <;> simp [same] at h1
  obtain ⟨i, z, kn⟩ := known hT hne
  have hq := scal_eq (w := w) (ρ := ρ) (base := base) (σ := σ) d kn.desc h1 gu gv
  have hx : xs[f.offset]? = some u := by rw [ho1, ← Array.getElem?_toList]; have := congrArg (fun l => l[0]?) eu; simpa using this
  have hy : ys[f.offset]? = some v := by rw [ho1, ← Array.getElem?_toList]; have := congrArg (fun l => l[0]?) ev; simpa using this
  have hx' : xs.toList.drop (k + 1) = us := by rw [← List.drop_drop, eu]; rfl
  have hy' : ys.toList.drop (k + 1) = vs := by rw [← List.drop_drop, ev]; rfl
  have ih := fields_eq hT d xs ys fs (k + 1) as bs p2 d2 h2 (by rw [hx']; exact gus) (by rw [hy']; exact gvs) ho2 (fun f' hf => hn f' (List.mem_cons_of_mem _ hf))
  have p1' := part_one (w := w) (P := P) kn.desc hq.2 hx
  have p2' := part_one (w := w) (P := P) kn.desc hq.2 hy
  simp only [Op.eqFields, if_pos (hn f (List.mem_cons_self ..)), Sem.run_bind, p1', p2', hq.1, Result.andThen_ok, Sem.run_ite, ih]
  rw [he]
  cases @decide p1 d1 <;> simp
theorem range_eq {e : TypeId} {I : TI} {i : TypeInfo} {z : Value} (kn : Known P e I i z) (d : Nat) (xs ys : Array Value) (hsz : I.size = 1) : ∀ (n k : Nat) (as bs : List AV) (p : Prop) (dp : Decidable p),
  same (List.replicate n I.d) as bs = some ⟨p, dp⟩ → RAs ρ base σ w as (xs.toList.drop k) → RAs ρ base σ w bs (ys.toList.drop k) →
  ((forIn (List.range' k n) ((none, ()) : Option Bool × Unit) fun j _ => do
   if (!(← Op.equalIn (d + 1) e (← part e xs (j * I.size)) (← part e ys (j * I.size)))) = true then pure (.done (some false, ())) else pure (.yield (none, ())) : Sem _).run P w).andThen
   (fun a w' => (match a.fst with | some r => (pure r : Sem Bool) | none => pure true).run P w') = .ok (@decide p dp) w
 | 0, k, as, bs, p, dp, h, _, _ => by
  cases as <;> cases bs <;> simp only [List.replicate_zero, same] at h <;> cases h
  simp
 | n + 1, k, [], bs, p, dp, h, _, _ => by rw [List.replicate_succ] at h; simp [same] at h
 | n + 1, k, a :: as, [], p, dp, h, _, _ => by rw [List.replicate_succ] at h; simp [same] at h
 | n + 1, k, a :: as, b :: bs, p, dp, h, ga, gb => by
  rw [List.replicate_succ] at h
  obtain ⟨p1, d1, p2, d2, h1, h2, he⟩ := same_cons h
  obtain ⟨u, us, eu, gu, gus⟩ := ga
  obtain ⟨v, vs, ev, gv, gvs⟩ := gb
  have hq := scal_eq (w := w) (ρ := ρ) (base := base) (σ := σ) d kn.desc h1 gu gv
  have hx : xs[k]? = some u := by rw [← Array.getElem?_toList]; have := congrArg (fun l => l[0]?) eu; simpa using this
  have hy : ys[k]? = some v := by rw [← Array.getElem?_toList]; have := congrArg (fun l => l[0]?) ev; simpa using this
  have hx' : xs.toList.drop (k + 1) = us := by rw [← List.drop_drop, eu]; rfl
  have hy' : ys.toList.drop (k + 1) = vs := by rw [← List.drop_drop, ev]; rfl
  have ih := range_eq kn d xs ys hsz n (k + 1) as bs p2 d2 h2 (by rw [hx']; exact gus) (by rw [hy']; exact gvs)
  have p1' := part_one (w := w) (P := P) kn.desc hq.2 hx
  have p2' := part_one (w := w) (P := P) kn.desc hq.2 hy
  rw [List.range'_succ, List.forIn_cons]
  simp only [hsz, Nat.mul_one, Sem.run_bind, p1', p2', hq.1, Result.andThen_ok, Sem.run_ite] at ih ⊢
  rw [he]
  cases @decide p1 d1
  ·simp
  ·simpa using ih
variable {P : Program} {R : Type} {ρ : Env} {base : Nat} {σ : Nat → Nat → Prop} {w : World} {r : R} {K : AV → Option R}
theorem sameK_sound {q : Option (Σ' p : Prop, Decidable p)} {op : BinOp} (h : sameK q op K = some r) : ∃ p d, q = some ⟨p, d⟩ ∧ ((op = .eql ∧ K (.bool p d) = some r) ∨ (op = .neq ∧ K (.bool (¬ p) (@instDecidableNot p d)) = some r)) := by
 unfold sameK at h
 split at h
 ·exact ⟨_, _, rfl, .inl ⟨rfl, h⟩⟩
 ·exact ⟨_, _, rfl, .inr ⟨rfl, h⟩⟩
 ·cases h
theorem agg_sound {xt : TypeId} {xs ys : Array Value} {p : Prop} {d : Decidable p} {op : BinOp} (he : (Op.equalIn 10000 xt (.agg xs) (.agg ys)).run P w = .ok (@decide p d) w)
  (h : (op = .eql ∧ K (.bool p d) = some r) ∨ (op = .neq ∧ K (.bool (¬ p) (@instDecidableNot p d)) = some r)) : Yields P ρ base σ w K r (binOp op xt (.agg xs) (.agg ys)) := by
 rcases h with ⟨rfl, h⟩ | ⟨rfl, h⟩
 ·exact yields_of (by rw [run_eql_struct, he]; rfl) h rfl
 ·refine yields_of (v := .bool (!(@decide p d))) (by rw [run_neq_struct, he]; rfl) h ?_
  show Value.bool _ = Value.bool _
  by_cases e : p <;> simp [e]
theorem asInt_sound {a : AV} {v : Value} {L : Int → Option R} (h : asInt a L = some r) (g : RA ρ base σ w a v) : ∃ k n, v = .int k n ∧ L n = some r := by
 cases a <;> simp only [asInt] at h <;> try (cases h; done)
 rename_i k n
 exact ⟨k, n, g, h⟩
theorem pickAt_sound {i : Int} {L : Nat → Option R} : ∀ {n j : Nat}, pickAt i L n j = some r → ∃ m : Nat, i = (m : Int) ∧ j ≤ m ∧ m < j + n ∧ L m = some r
 | 0, _, h => by simp [pickAt] at h
 | n + 1, j, h => by
  simp only [pickAt] at h
  split at h
  ·rename_i e; exact ⟨j, e, Nat.le_refl _, by omega, h⟩
  ·obtain ⟨m, e, h1, h2, h3⟩ := pickAt_sound h; exact ⟨m, e, by omega, by omega, h3⟩
theorem partOf_sound {C : Ctx} (hT : TabOk P C.T) {t : TypeId} {cs : List AV} {vs : Array Value} {off : Nat} (h : partOf (C.ti t) cs off K = some r) (g : RAs ρ base σ w cs vs.toList) : Yields P ρ base σ w K r (part t vs off) := by
 have hne : (C.ti t).d ≠ .other := fun e => by unfold partOf at h; rw [e] at h; cases h
 obtain ⟨i, z, kn⟩ := known hT hne
 have ha := isAgg_of (P := P) kn.desc hne w
 have hs := kn.sizeOf w
 have gt := (g.drop off).take (C.ti t).size
 have key : ∀ (v : AV), (cs.drop off).take (C.ti t).size = [v] → (C.ti t).size = 1 → (C.ti t).d.isAgg = false → K v = some r → Yields P ρ base σ w K r (part t vs off) := by
  intro v e e1 e2 hk
  rw [e] at gt
  obtain ⟨u, q, eu, gu, -⟩ := gt
  rw [e1] at eu
  have hu : vs[off]? = some u := by
   rw [← Array.getElem?_toList]
   have := congrArg (fun l => l[0]?) eu
   simpa [List.getElem?_take] using this
  refine yields_of ?_ hk gu
  rw [e2] at ha
  simp [part, ha, hu]
 have keyA : ((cs.drop off).take (C.ti t).size).length = (C.ti t).size → (C.ti t).d.isAgg = true → K (.agg ((cs.drop off).take (C.ti t).size)) = some r → Yields P ρ base σ w K r (part t vs off) := by
  intro hl e2 hk
  refine yields_of (v := .agg (vs.extract off (off + (C.ti t).size))) ?_ hk ⟨_, rfl, ?_⟩
  ·rw [e2] at ha
   simp [part, ha, hs]
  ·rw [Array.toList_extract, List.extract_eq_take_drop]
   simpa using gt
 unfold partOf at h
 split at h
 ·cases h
 ·rename_i hd
  dsimp only at h
  split at h
  ·exact keyA (by assumption) (by rw [hd]; rfl) h
  ·cases h
 ·rename_i hd
  dsimp only at h
  split at h
  ·exact keyA (by assumption) (by rw [hd]; rfl) h
  ·cases h
 ·rename_i h1 h2 h3
  dsimp only at h
  split at h
  ·rename_i v e
   split at h
   ·rename_i hsz
    exact key v e hsz (by cases hd : (C.ti t).d <;> first | rfl | exact absurd hd (h2 _ _) | exact absurd hd (h3 _)) h
   ·cases h
  ·cases h
theorem fill_sound {place : Nat → Option (Nat × Nat)} : ∀ {parts : List (Nat × AV)} {vparts : List (Nat × Value)} {cs out : List AV} {vs : Array Value}, fillAt place parts cs = some out → RAs ρ base σ w cs vs.toList →
  vparts.length = parts.length → (∀ (j : Nat) i a, parts[j]? = some (i, a) → ∃ v, vparts[j]? = some (i, v) ∧ RA ρ base σ w a v) → ∃ vo, Instr.fill place vs vparts = some vo ∧ RAs ρ base σ w out vo.toList
 | [], vparts, cs, out, vs, h, g, hl, _ => by
  simp only [fillAt, Option.some.injEq] at h
  subst h
  obtain rfl : vparts = [] := List.eq_nil_of_length_eq_zero (by simpa using hl)
  exact ⟨vs, rfl, g⟩
 | (i, a) :: parts, vparts, cs, out, vs, h, g, hl, hp => by
  obtain ⟨v, hv, ga⟩ := hp 0 i a rfl
  cases vparts with
  | nil => simp at hv
  | cons q vparts =>
  obtain rfl : q = (i, v) := by simpa using hv
  simp only [fillAt] at h
  split at h
  ·cases h
  ·rename_i off size hpl
   split at h
   ·rename_i hc
    obtain ⟨h1, h2, h3⟩ := hc
    have gc := RA.cells h3 ga
    have hcl := gc.length
    have hvl := g.length
    have hsz : v.cells.size = size := by rw [← Array.length_toList, hcl, h1]
    have hfit : off + v.cells.size ≤ vs.size := by rw [hsz, ← Array.length_toList, hvl]; exact h2
    have hfold : ∀ (l : List Value) (k : Nat) (xs : Array Value), off + k + l.length ≤ xs.size → ((l.zipIdx k).foldl (fun cs q => cs.setIfInBounds (off + q.2) q.1) xs).toList = xs.toList.take (off + k) ++ l ++ xs.toList.drop (off + k + l.length) := by
     intro l
     induction l with
     | nil => intro k xs _; simp
     | cons y l ih =>
      intro k xs hk
      simp only [List.zipIdx_cons, List.foldl_cons]
      rw [show k + 1 = k + 1 from rfl, ih (k + 1) _ (by simp at hk ⊢; omega)]
      simp only [Array.toList_setIfInBounds, List.length_cons] at hk ⊢
      have hlt : off + k < xs.toList.length := by simp; omega
      rw [show off + (k + 1) = off + k + 1 by omega, show off + k + 1 + l.length = off + k + (l.length + 1) by omega]
      rw [List.set_eq_take_append_cons_drop, if_pos hlt]
      rw [List.take_append, List.take_take, List.length_take, Nat.min_eq_left (Nat.le_of_lt hlt)]
      simp only [Nat.add_sub_cancel_left, Nat.min_eq_right (Nat.le_add_right _ 1), List.take_succ_cons, List.take_zero]
      rw [List.drop_append, List.length_take, Nat.min_eq_left (Nat.le_of_lt hlt), List.drop_eq_nil_of_le (by simp; omega)]
      rw [show off + k + (l.length + 1) - (off + k) = l.length + 1 by omega, List.drop_succ_cons, List.drop_drop]
      simp
      rw [show off + k + 1 + l.length = off + k + (l.length + 1) by omega]
    have hres := hfold v.cells.toList 0 vs (by simpa using hfit)
    have hz : (v.cells.zipIdx.foldl (fun cs (c, j) => cs.setIfInBounds (off + j) c) vs) = (v.cells.toList.zipIdx.foldl (fun cs q => cs.setIfInBounds (off + q.2) q.1) vs) := by
     rw [← Array.foldl_toList, Array.toList_zipIdx]
    obtain ⟨vo, e1, e2⟩ := fill_sound (vs := v.cells.zipIdx.foldl (fun cs (c, j) => cs.setIfInBounds (off + j) c) vs) (vparts := vparts) h (by
     rw [hz, hres]
     simp only [Nat.add_zero]
     refine RAs.append (RAs.append (g.take off) gc) ?_
     have : off + v.cells.toList.length = off + size := by rw [Array.length_toList, hsz]
     rw [this]
     exact g.drop _) (by simpa using hl) (fun j i' a' hj => by simpa using hp (j + 1) i' a' (by simpa using hj))
    refine ⟨vo, ?_, e2⟩
    have hcnd : ¬ (v.cells.size ≠ size || off + v.cells.size > vs.size) = true := by
     simp [hsz]; omega
    simp only [Instr.fill, hpl, if_neg hcnd, e1]
   ·cases h
end Go.Proofs.YtkaihbkfobiejaaGreatDoor.Xe
