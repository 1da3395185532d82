import Derived.Orders
import Derived.Laws.Entries
/- An executor of the program's code on values, for proofs: its words. -/
namespace Go.Proofs.YtkaihbkfobiejaaGreatDoor.Xe
open Go
/-- Types of values: numbers, texts, slices and what is put together of them. -/
inductive Ty where
  | int (k : IntKind)
  | bool
  | str
  | unit
  | pair (a b : Ty)
  | sl (t : Ty)
@[reducible] def El : Ty → Type
  | .int _ => Int
  | .bool => Bool
  | .str => ByteArray
  | .unit => Unit
  | .pair a b => El a × El b
  | .sl t => List (El t)
def Ty.sz : Ty → Nat
  | .unit => 0
  | .pair a b => a.sz + b.sz
  | _ => 1
def Ty.same : (a b : Ty) → Option (PLift (a = b))
  | .int k, .int l => if h : k = l then some ⟨by rw [h]⟩ else none
  | .bool, .bool => some ⟨rfl⟩
  | .str, .str => some ⟨rfl⟩
  | .unit, .unit => some ⟨rfl⟩
  | .pair a b, .pair c d => match Ty.same a c, Ty.same b d with
    | some ⟨h⟩, some ⟨g⟩ => some ⟨by rw [h, g]⟩
    | _, _ => none
  | .sl a, .sl b => match Ty.same a b with
    | some ⟨h⟩ => some ⟨by rw [h]⟩
    | none => none
  | _, _ => none
/-- Values as the executor has them. A slice is its elements; 'own': it is one of the call's own that may grow in place; 'ptr': the address of a cell of a variable of the call's own; 'elp': that of a cell of an element; 'mp': a map of the call's own, of which the variable has the keys; 'row': elements of the call's own that are written, 'ms': a slice over them (or over an array), 'mse': the address of one of them; 'emp': a slice that has no room; 'bld': what a strings.Builder holds ('bld0': that it is new). -/
inductive AV where
  | int (k : IntKind) (n : Int)
  | bool (p : Prop) (d : Decidable p)
  | str (s : ByteArray)
  | sl (own : Option Nat) (t : Ty) (l : List (El t))
  | nilsl
  | ptr (b off : Nat)
  | nilp
  | elp (t : Ty) (x : El t) (off : Nat)
  | fn (f : FuncId) (caps : List AV)
  | mp (b : Nat)
  | keys (k e : TypeId) (t : Ty) (l : List (El t))
  | itr (s : ByteArray) (pos : Nat)
  | row (t : Ty) (l : List (El t))
  | ms (b sz off len : Nat)
  | mse (b sz off : Nat)
  | emp (t : Ty)
  | bld (i : Option Nat) (T : TypeId) (l : List Int)
  | bld0 (e : TypeId)
  | agg (cs : List AV)
  | tup (cs : List AV)
  | junk
@[reducible] def AV.b (b : Bool) : AV := .bool (b = true) (instDecidableEqBool b true)
def AV.cells : AV → List AV
  | .agg cs => cs
  | v => [v]
def AV.leaf : AV → Bool
  | .agg _ | .tup _ | .junk | .keys .. | .itr .. | .row .. | .bld .. | .bld0 .. => false
  | _ => true
def AV.plain : AV → Bool
  | .keys .. | .itr .. | .row .. | .bld .. | .bld0 .. => false
  | _ => true
def enc : (t : Ty) → El t → List AV
  | .int k, n => [.int k n]
  | .bool, b => [.b b]
  | .str, s => [.str s]
  | .unit, _ => []
  | .pair a b, x => enc a x.1 ++ enc b x.2
  | .sl t, l => [.sl none t l]
def dec : (t : Ty) → List AV → Option (El t × List AV)
  | .int k, .int l n :: r => if k = l then some (n, r) else none
  | .bool, .bool p d :: r => some (@decide p d, r)
  | .str, .str s :: r => some (s, r)
  | .unit, r => some ((), r)
  | .pair a b, r => match dec a r with
    | none => none
    | some (x, r1) => match dec b r1 with
      | none => none
      | some (y, r2) => some ((x, y), r2)
  | .sl t, .sl _ t' l :: r => match Ty.same t' t with
    | some ⟨h⟩ => some (h ▸ l, r)
    | none => none
  | .sl _, .nilsl :: r => some ([], r)
  | .sl _, .emp _ :: r => some ([], r)
  | _, _ => none
/-- How a value is laid: alone, or as a struct's or an array's cells; as the address of cells that stay; as a function with what it has caught (addresses of cells that stay). -/
inductive Shp where
  | v (t : Ty)
  | a (t : Ty)
  | p (t : Ty)
  | fn (f : FuncId) (l : List Ty)
@[reducible] def tysOf : List Ty → Ty
  | [] => .unit
  | [t] => t
  | t :: r :: l => .pair t (tysOf (r :: l))
@[reducible] def Shp.ty : Shp → Ty
  | .v t => t
  | .a t => t
  | .p t => t
  | .fn _ l => tysOf l
def encPs : (l : List Ty) → El (tysOf l) → List AV
  | [], _ => []
  | [t], x => [.elp t x 0]
  | t :: r :: l, x => .elp t x.1 0 :: encPs (r :: l) x.2
def enc1 : (s : Shp) → El s.ty → AV
  | .v t, x => (enc t x).headD .junk
  | .a t, x => .agg (enc t x)
  | .p t, x => .elp t x 0
  | .fn f l, x => .fn f (encPs l x)
def decP (t : Ty) : AV → Option (El t)
  | .elp u x 0 => (match Ty.same u t with
    | some ⟨h⟩ => some (h ▸ x)
    | none => none)
  | _ => none
def decPs : (l : List Ty) → List AV → Option (El (tysOf l))
  | [], [] => some ()
  | [t], [v] => decP t v
  | t :: r :: l, v :: vs => match decP t v, decPs (r :: l) vs with
    | some x, some y => some (x, y)
    | _, _ => none
  | _, _ => none
def dec1 : (s : Shp) → AV → Option (El s.ty)
  | .v t, v => match dec t [v] with
    | some (x, []) => some x
    | _ => none
  | .a t, .agg cs => match dec t cs with
    | some (x, []) => some x
    | _ => none
  | .a _, _ => none
  | .p t, v => decP t v
  | .fn f l, .fn g caps => if g = f then decPs l caps else none
  | .fn _ _, _ => none
@[reducible] def sgTy : List Shp → Ty
  | [] => .unit
  | [s] => s.ty
  | s :: r :: l => .pair s.ty (sgTy (r :: l))
def encs : (sg : List Shp) → El (sgTy sg) → List AV
  | [], _ => []
  | [s], x => [enc1 s x]
  | s :: r :: l, x => enc1 s x.1 :: encs (r :: l) x.2
def decs : (sg : List Shp) → List AV → Option (El (sgTy sg))
  | [], [] => some ()
  | [s], [v] => dec1 s v
  | s :: r :: l, v :: vs => match dec1 s v, decs (r :: l) vs with
    | some x, some y => some (x, y)
    | _, _ => none
  | _, _ => none
inductive Rs where
  | one (s : Shp)
  | tup (l : List Shp)
@[reducible] def Rs.ty : Rs → Ty
  | .one s => s.ty
  | .tup l => sgTy l
def encR : (r : Rs) → El r.ty → AV
  | .one s, x => enc1 s x
  | .tup l, x => .tup (encs l x)
def decR : (r : Rs) → AV → Option (El r.ty)
  | .one s, v => dec1 s v
  | .tup l, .tup vs => decs l vs
  | .tup _, _ => none
/-- What a function that is called answers. -/
structure Con where
  id : FuncId
  sg : List Shp
  rs : Rs
  f : El (sgTy sg) → Option (El rs.ty)
/-- What of a type is wanted. -/
inductive D where
  | int (k : IntKind)
  | bool
  | str
  | sl (e : TypeId)
  | arr (n : Nat) (e : TypeId)
  | st (fs : List (TypeId × Nat))
  | map (k e : TypeId)
  | cell
  | other
structure TI where
  d : D
  size : Nat
  bytes : Nat
  zero : List AV
  ty : Option Ty
  eq : Bool
/-- What is known of a function besides its code: at which loops (by the first region in them) which temporaries are wanted, and how many variables; at the end of which regions all but some temporaries are let go. -/
structure An where
  live : List (Nat × List Nat × Nat) := []
  join : List (Nat × List (Nat × Ty)) := []
structure St where
  tmps : List AV
  boxes : List (List AV)
  alive : List Bool
/-- What a function that turns the caller's variables does. -/
structure ConS where
  id : FuncId
  run : List AV → St → Option (Σ t : Ty, Option (El t) × (El t → AV × St))
structure Ctx where
  T : List TI
  G : List Con
  S : List ConS
  an : An
def Ctx.ti (C : Ctx) (t : TypeId) : TI := C.T.getD t ⟨.other, 0, 0, [], none, false⟩
def D.isAgg : D → Bool
  | .arr .. | .st _ => true
  | _ => false
def D.known : D → Bool
  | .other => false
  | _ => true
def D.scal : D → Bool
  | .int _ | .bool | .str => true
  | _ => false
def ofLeaf : Value → AV
  | .bool b => .b b
  | .int k n => .int k n
  | .string s => .str s
  | .pointer none => .nilp
  | .slice none 0 0 => .nilsl
  | _ => .junk
def ofV : Value → AV
  | .agg cs => .agg (cs.toList.map ofLeaf)
  | .tuple cs => .tup (cs.toList.map ofLeaf)
  | v => ofLeaf v
def ev (s : St) : Operand → AV
  | .tmp t => s.tmps.getD t .junk
  | .const v => ofV v
  | .global _ => .junk
  | .func f => .fn f []
def St.put (s : St) (dst : Option Tmp) (v : AV) : St :=
  match dst with
  | none => s
  | some d => { s with tmps := s.tmps.set d v }
/-! ### What may fail -/
def bget (s : ByteArray) (i : Int) : Option UInt8 := if 0 ≤ i then s[i.toNat]? else none
def lget {α : Type} (l : List α) (i : Int) : Option α := if 0 ≤ i then l[i.toNat]? else none
def ssub (s : ByteArray) (lo hi : Int) : Option ByteArray := if 0 ≤ lo ∧ lo ≤ hi ∧ hi ≤ (s.size : Int) then some (s.extract lo.toNat hi.toNat) else none
def lsub {α : Type} (l : List α) (lo hi : Int) : Option (List α) := if 0 ≤ lo ∧ lo ≤ hi ∧ hi ≤ (l.length : Int) then some ((l.take hi.toNat).drop lo.toNat) else none
def scat (a b : ByteArray) : Option ByteArray := if a.size + b.size ≤ 9223372036854775807 then some (a ++ b) else none
def lcat {α : Type} (bytes : Nat) (a b : List α) : Option (List α) := if (a.length + b.length) * bytes ≤ 140737488355328 then some (a ++ b) else none
def lset {α : Type} (l : List α) (j : Nat) (x : α) : Option (List α) := if j < l.length then some (l.set j x) else none
/-- Elements that are laid over others, from a place on, no more than there is room for. -/
def lcopy {α : Type} (l : List α) (off len : Nat) (m : List α) : Option (List α) := if off + len ≤ l.length then some (l.take off ++ m.take len ++ l.drop (off + min m.length len)) else none
def lpart {α : Type} (l : List α) (off len : Nat) : Option (List α) := if off + len ≤ l.length then some ((l.drop off).take len) else none
def scopy (z : ByteArray) (i : Nat) (old : Int) : Int := if i < z.size then ((z.data.getD i 0).toNat : Int) else old
def bytesOf (l : List Int) : ByteArray := ⟨(l.map fun n => UInt8.ofNat n.toNat).toArray⟩
section
variable {R : Type}
/-! ### Operations that read their operands alone -/
def bop (op : BinOp) (k : IntKind) (x y : Int) (K : AV → Option R) : Option R :=
  match op with
  | .add => K (.int k (k.wrap (x + y)))
  | .sub => K (.int k (k.wrap (x - y)))
  | .mul => K (.int k (k.wrap (x * y)))
  | .quo => if y = 0 then none else K (.int k (k.wrap (x.tdiv y)))
  | .rem => if y = 0 then none else K (.int k (x.tmod y))
  | .and | .or | .xor | .andNot => K (.int k (Go.bits op k x y))
  | .eql => K (.bool (x = y) inferInstance)
  | .neq => K (.bool (¬ x = y) inferInstance)
  | .lss => K (.bool (x < y) inferInstance)
  | .leq => K (.bool (x ≤ y) inferInstance)
  | .gtr => K (.bool (x > y) inferInstance)
  | .geq => K (.bool (x ≥ y) inferInstance)
  | _ => none
def shop (op : BinOp) (k : IntKind) (x y : Int) (K : AV → Option R) : Option R :=
  match op with
  | .shl => if y < 0 then none else K (.int k (k.wrap (x * 2 ^ (min y.toNat k.bits))))
  | .shr => if y < 0 then none else K (.int k (x.fdiv (2 ^ (min y.toNat k.bits))))
  | _ => none
def sop (op : BinOp) (x y : ByteArray) (K : AV → Option R) : Option R :=
  match op with
  | .add => (scat x y).bind fun z => K (.str z)
  | .eql => K (.bool (x = y) inferInstance)
  | .neq => K (.bool (¬ x = y) inferInstance)
  | _ => none
/-- Are two of each cells the same? -/
def same : List D → List AV → List AV → Option (Σ' p : Prop, Decidable p)
  | [], [], [] => some ⟨True, inferInstance⟩
  | .int _ :: ds, .int k x :: r, .int m y :: l => if k = m then (match same ds r l with
    | some ⟨p, d⟩ => some ⟨x = y ∧ p, @instDecidableAnd _ _ inferInstance d⟩
    | none => none) else none
  | .bool :: ds, .bool p d :: r, .bool q e :: l => match same ds r l with
    | some ⟨o, f⟩ => some ⟨(@decide p d = @decide q e) ∧ o, @instDecidableAnd _ _ inferInstance f⟩
    | none => none
  | .str :: ds, .str x :: r, .str y :: l => match same ds r l with
    | some ⟨p, d⟩ => some ⟨x = y ∧ p, @instDecidableAnd _ _ inferInstance d⟩
    | none => none
  | _, _, _ => none
def sameK (q : Option (Σ' p : Prop, Decidable p)) (op : BinOp) (K : AV → Option R) : Option R :=
  match q, op with
  | some ⟨p, d⟩, .eql => K (.bool p d)
  | some ⟨p, d⟩, .neq => K (.bool (¬ p) (@instDecidableNot p d))
  | _, _ => none
end
end Go.Proofs.YtkaihbkfobiejaaGreatDoor.Xe

/- The executor: its steps. -/
namespace Go.Proofs.YtkaihbkfobiejaaGreatDoor.Xe
open Go
set_option linter.unusedVariables false
section
variable {R : Type}
def asInt : AV → (Int → Option R) → Option R
  | .int _ n, K => K n
  | _, _ => none
def orInt (d : Int) (x : Option AV) (K : Int → Option R) : Option R :=
  match x with
  | none => K d
  | some v => asInt v K
/-- Part i of n: which, must be seen. -/
def pickAt (i : Int) (K : Nat → Option R) : Nat → Nat → Option R
  | 0, _ => none
  | n + 1, j => if i = (j : Int) then K j else pickAt i K n (j + 1)
def partOf (I : TI) (cs : List AV) (off : Nat) (K : AV → Option R) : Option R :=
  let c := (cs.drop off).take I.size
  match I.d with
  | .other => none
  | .arr _ _ | .st _ => if c.length = I.size then K (.agg c) else none
  | _ => (match c with | [v] => if I.size = 1 then K v else none | _ => none)
/-- Cells of parts, laid over others. -/
def fillAt (place : Nat → Option (Nat × Nat)) : List (Nat × AV) → List AV → Option (List AV)
  | [], cs => some cs
  | (i, v) :: r, cs => match place i with
    | none => none
    | some (off, size) => let c := v.cells; if c.length = size ∧ off + size ≤ cs.length ∧ c.all AV.leaf then fillAt place r (cs.take off ++ c ++ cs.drop (off + size)) else none
def rowsOf (t : Ty) : Nat → List AV → Option (List (El t))
  | 0, [] => some []
  | n + 1, cs => match dec t cs with
    | some (x, r) => (match rowsOf t n r with | some l => some (x :: l) | none => none)
    | none => none
  | 0, _ :: _ => none
/-- What a slice's elements are. -/
def listOf (t : Ty) : AV → Option (List (El t))
  | .sl _ u l => match Ty.same u t with
    | some ⟨h⟩ => some (h ▸ l)
    | none => none
  | .nilsl => some []
  | .emp _ => some []
  | _ => none
def lenOf : D → AV → Option Nat
  | .str, .str s => some s.size
  | .sl _, .sl _ _ l => some l.length
  | .sl _, .nilsl => some 0
  | .sl _, .emp _ => some 0
  | .sl _, .ms _ _ _ n => some n
  | .arr n _, _ => some n
  | _, _ => none
def callOf (C : Ctx) (f : FuncId) (args : List AV) (K : AV → Option R) : Option R :=
  match C.G.find? (fun c => c.id == f) with
  | some c => (match decs c.sg args with
    | some a => (c.f a).bind fun b => K (encR c.rs b)
    | none => none)
  | none => none
/-- A slice that is built: its elements. -/
def built (C : Ctx) (ρ : Operand → AV) (t : TypeId) (n : Nat) (parts : List (Nat × Operand)) (K : (t : Ty) → List (El t) → Option R) : Option R :=
  match (C.ti t).d with
  | .sl e => let I := C.ti e
    (match I.ty with
    | some u => if I.d.known = true ∧ I.zero.length = I.size ∧ u.sz = I.size ∧ n * I.size ≤ 16777216 ∧ n ≤ 16777216 then
        (match fillAt (fun i => some (i * I.size, I.size)) (parts.map fun p => (p.1, ρ p.2)) (List.replicate n I.zero).flatten with
        | some cs => (match rowsOf u n cs with | some l => K u l | none => none)
        | none => none) else none
    | none => none)
  | _ => none
/-- An operation that reads its operands alone. -/
def xa (C : Ctx) (ρ : Operand → AV) (o : Op) (K : AV → Option R) : Option R :=
  match o with
  | .move x | .assign x => K (ρ x)
  | .pick c a b => match ρ c with
    | .bool p d => @ite _ p d (K (ρ a)) (K (ρ b))
    | _ => none
  | .build t parts => let I := C.ti t
    (match I.d with
    | .st fs => (match fillAt (fun i => match fs[i]? with | some f => some (f.2, (C.ti f.1).size) | none => none) (parts.toList.map fun p => (p.1, ρ p.2)) I.zero with | some cs => if fs.all (fun f => (C.ti f.1).d.known) = true then K (.agg cs) else none | none => none)
    | .arr _ e => (match fillAt (fun i => some (i * (C.ti e).size, (C.ti e).size)) (parts.toList.map fun p => (p.1, ρ p.2)) I.zero with | some cs => if (C.ti e).d.known = true then K (.agg cs) else none | none => none)
    | _ => none)
  | .buildSlice t n parts => built C ρ t n parts.toList fun u l => if n = 0 then K (.emp u) else K (.sl none u l)
  | .nilCheck x => match ρ x with
    | .ptr b i => K (.ptr b i)
    | .elp t x i => K (.elp t x i)
    | _ => none
  | .binOp op xt x y _ => match ρ x, ρ y with
    | .int k a, .int l b => (match op with
      | .shl | .shr => shop op k a b K
      | _ => if k = l then bop op k a b K else none)
    | .str a, .str b => sop op a b K
    | .bool p d, .bool q e => (match (C.ti xt).d, op with
      | .bool, .eql => K (.bool (@decide p d = @decide q e) inferInstance)
      | .bool, .neq => K (.bool (¬ @decide p d = @decide q e) inferInstance)
      | _, _ => none)
    | .agg xs, .agg ys => (match (C.ti xt).d with
      | .st fs => if (C.ti xt).eq = true ∧ fs.map (·.2) = List.range fs.length then sameK (same (fs.map fun f => (C.ti f.1).d) xs ys) op K else none
      | .arr n e => if 0 < n ∧ (C.ti e).size = 1 then sameK (same (List.replicate n (C.ti e).d) xs ys) op K else none
      | _ => none)
    | _, _ => none
  | .unOp op _ x => match op, ρ x with
    | .neg, .int k n => K (.int k (k.wrap (0 - n)))
    | .xor, .int k n => K (.int k (Go.bits .xor k (if k.signed then -1 else k.max) n))
    | .not, .bool p d => K (.bool (¬ p) (@instDecidableNot p d))
    | _, _ => none
  | .convert src dst x => if (C.ti src).d.known = false then none else match (C.ti dst).d, ρ x with
    | .int k, .int _ n => K (.int k (k.wrap n))
    | .str, .str s => K (.str s)
    | .str, .sl _ (.int .u8) l => (match (C.ti src).d with
      | .sl e => (match (C.ti e).d with | .int .u8 => K (.str (bytesOf l)) | _ => none)
      | _ => none)
    | _, _ => none
  | .slice t x lo hi none => match (C.ti t).d, ρ x with
    | .str, .str s => orInt 0 (lo.map ρ) fun l => orInt s.size (hi.map ρ) fun h => (ssub s l h).bind fun z => K (.str z)
    | .sl e, .sl _ u m => if (C.ti e).d.known = true ∧ u.sz = (C.ti e).size then orInt 0 (lo.map ρ) fun l => orInt m.length (hi.map ρ) fun h => (lsub m l h).bind fun z => K (.sl none u z) else none
    | .sl e, .ms b sz off n => if (C.ti e).d.known = true ∧ sz = (C.ti e).size then orInt 0 (lo.map ρ) fun l => orInt n (hi.map ρ) fun h => if 0 ≤ l ∧ l ≤ h ∧ h ≤ (n : Int) then K (.ms b sz (off + l.toNat) (h.toNat - l.toNat)) else none else none
    | .arr n e, .ptr b 0 => (match lo, hi with
      | none, none => if (C.ti e).d.known = true ∧ 0 < n then K (.ms b (C.ti e).size 0 n) else none
      | _, _ => none)
    | _, _ => none
  | .fieldAddr t x f => match (C.ti t).d with
    | .st fs => (match fs[f]? with
      | some q => if (C.ti q.1).d.known = false ∨ (C.ti q.1).size = 0 then none else (match ρ x with
        | .ptr b i => K (.ptr b (i + q.2))
        | .elp u y i => K (.elp u y (i + q.2))
        | _ => none)
      | none => none)
    | _ => none
  | .field t x f => match (C.ti t).d, ρ x with
    | .st fs, .agg cs => (match fs[f]? with
      | some q => partOf (C.ti q.1) cs q.2 K
      | none => none)
    | _, _ => none
  | .indexAddr t x i => match (C.ti t).d, ρ x with
    | .arr n e, .ptr b j => if (C.ti e).d.known = false then none else asInt (ρ i) fun i => pickAt i (fun m => K (.ptr b (j + m * (C.ti e).size))) n 0
    | .arr n e, .elp u y j => if (C.ti e).d.known = false then none else asInt (ρ i) fun i => pickAt i (fun m => K (.elp u y (j + m * (C.ti e).size))) n 0
    | .sl e, .sl _ u l => if (C.ti e).d.known = true ∧ u.sz = (C.ti e).size then asInt (ρ i) fun i => (lget l i).bind fun y => K (.elp u y 0) else none
    | .sl e, .ms b sz off n => if (C.ti e).d.known = true ∧ sz = (C.ti e).size then asInt (ρ i) fun i => if 0 ≤ i ∧ i < (n : Int) then K (.mse b sz (off + i.toNat)) else none else none
    | _, _ => none
  | .index t x i => match (C.ti t).d, ρ x with
    | .arr n e, .agg cs => asInt (ρ i) fun i => pickAt i (fun m => partOf (C.ti e) cs (m * (C.ti e).size) K) n 0
    | .str, .str s => asInt (ρ i) fun i => (bget s i).bind fun b => K (.int .u8 b.toNat)
    | _, _ => none
  | .extract x i => match ρ x with
    | .tup vs => (match vs[i]? with | some v => K v | none => none)
    | _ => none
  | .makeFunc (.func f) first caps => if first.size = 0 then K (.fn f (caps.toList.map ρ)) else none
  | .call c => match c.callee with
    | .value f => (match ρ f with
      | .fn g caps => callOf C g (c.args.toList.map ρ ++ caps) K
      | _ => none)
    | .builtin .len => (match c.args.toList.map ρ, c.argTypes.toList with
      | [v], [t] => (match lenOf (C.ti t).d v with
        | some n => K (.int .i64 n)
        | none => none)
      | _, _ => none)
    | .builtin .min => (match c.args.toList.map ρ with
      | [.int k a, .int l b] => if k = l then @ite _ (b < a) inferInstance (K (.int k b)) (K (.int k a)) else none
      | _ => none)
    | .builtin .max => (match c.args.toList.map ρ with
      | [.int k a, .int l b] => if k = l then @ite _ (b > a) inferInstance (K (.int k b)) (K (.int k a)) else none
      | _ => none)
    | _ => none
  | _ => none
/-- The cells from a place on. -/
def cellsAt (s : St) (v : AV) (n : Nat) : Option (List AV) :=
  match v with
  | .ptr b i => (match s.boxes[b]? with
    | some cs => if i + n ≤ cs.length ∧ cs.all AV.plain = true then some ((cs.drop i).take n) else none
    | none => none)
  | .elp t x i => if i + n ≤ (enc t x).length then some (((enc t x).drop i).take n) else none
  | _ => none
def xload (C : Ctx) (s : St) (t : TypeId) (a : AV) (K : AV → Option R) : Option R :=
  match cellsAt s a (C.ti t).size with
  | some cs => partOf (C.ti t) cs 0 K
  | none => none
def sameTmp : Operand → Operand → Bool
  | .tmp a, .tmp b => a == b
  | _, _ => false
/-- Elements that are written. -/
def rowOf (s : St) (b : Nat) : Option (Σ t : Ty, List (El t)) :=
  match s.boxes[b]? with
  | some [.row t l] => some ⟨t, l⟩
  | _ => none
/-- Bytes that are written over the cells of an array. -/
def overStr (z : ByteArray) : Nat → List AV → Option (List AV)
  | _, [] => some []
  | i, .int .u8 n :: r => match overStr z (i + 1) r with
    | some l => some (.int .u8 (scopy z i n) :: l)
    | none => none
  | _, _ => none
def bytesIn : List AV → Option (List Int)
  | [] => some []
  | .int .u8 n :: r => match bytesIn r with
    | some l => some (n :: l)
    | none => none
  | _ => none
/-- Cells of the caller's that stay while the called one looks at them. -/
def frzP (s : St) (t : Ty) : AV → AV
  | .ptr b i => (match s.boxes[b]? with
    | some cs => if cs.all AV.plain = true then (match dec t ((cs.drop i).take t.sz) with
      | some (x, []) => .elp t x 0
      | _ => .junk) else .junk
    | none => .junk)
  | v => v
def frzPs (s : St) : List Ty → List AV → List AV
  | t :: l, v :: vs => frzP s t v :: frzPs s l vs
  | _, vs => vs
def frz (s : St) : Shp → AV → AV
  | .p t, v => frzP s t v
  | .fn _ l, .fn g caps => .fn g (frzPs s l caps)
  | _, v => v
def frzs (s : St) : List Shp → List AV → List AV
  | h :: sg, v :: vs => frz s h v :: frzs s sg vs
  | _, vs => vs
def Shp.looks : Shp → Bool
  | .p _ | .fn .. => true
  | _ => false
/-- What is told by itself, no memory being looked at. -/
def Ty.flat : Ty → Bool
  | .sl _ => false
  | .pair a b => a.flat && b.flat
  | _ => true
def Shp.flat : Shp → Bool
  | .v t | .a t => t.flat
  | _ => false
def Rs.flat : Rs → Bool
  | .one s => s.flat
  | .tup l => l.all Shp.flat
def hasI (z : Int) (l : List Int) : AV := .bool (z ∈ l) inferInstance
instance memS (z : ByteArray) : (l : List ByteArray) → Decidable (z ∈ l)
  | [] => isFalse (by simp)
  | x :: l => match (inferInstance : Decidable (z = x)), memS z l with
    | isTrue h, _ => isTrue (by rw [h]; exact .head _)
    | _, isTrue h => isTrue (.tail _ h)
    | isFalse h, isFalse g => isFalse (fun hm => (List.mem_cons.1 hm).elim h g)
def hasS (z : ByteArray) (l : List ByteArray) : AV := .bool (z ∈ l) (memS z l)
def D.isBool : D → Bool
  | .bool => true
  | _ => false
/-- Is it a key? -/
def keyIn (u : Ty) (l : List (El u)) (v : AV) (K : AV → Option R) : Option R :=
  match u, l, v with
  | .int .i64, l, .int .i64 z => if -9223372036854775808 ≤ z ∧ z ≤ 9223372036854775807 then K (hasI z l) else none
  | .str, l, .str z => if z.size ≤ 9223372036854775807 then K (hasS z l) else none
  | _, _, _ => none
def keyAdd (u : Ty) (l : List (El u)) (v : AV) (K : List (El u) → Option R) : Option R :=
  match u, l, v with
  | .int .i64, l, .int .i64 z => if -9223372036854775808 ≤ z ∧ z ≤ 9223372036854775807 ∧ l.length < 9223372036854775807 then K (l ++ [z]) else none
  | .str, l, .str z => if z.size ≤ 9223372036854775807 ∧ l.length < 9223372036854775807 then K (l ++ [z]) else none
  | _, _, _ => none
def keyTy : D → Option Ty
  | .int .i64 => some (.int .i64)
  | .str => some .str
  | _ => none
def intsOf (z : ByteArray) : List Int := z.data.toList.map fun c => (c.toNat : Int)
/-- What writes into the strings.Builder that it has caught. -/
def bldW (g : FuncId) (T : TypeId) : ConS := ⟨g, fun args s => match args with
  | [.str z, .ptr b 0] => (match s.boxes[b]? with
    | some [.bld0 e] => if e == T then some ⟨.sl (.int .u8), lcat 1 [] (intsOf z), fun l' => (.tup [], { s with boxes := s.boxes.set b [.bld (some s.alive.length) T l'], alive := s.alive ++ [true] })⟩ else none
    | some [.bld (some i) e l] => if e == T ∧ s.alive[i]? = some true then some ⟨.sl (.int .u8), lcat 1 l (intsOf z), fun l' => (.tup [], { s with boxes := s.boxes.set b [.bld (some s.alive.length) T l'], alive := (s.alive.set i false) ++ [true] })⟩ else none
    | _ => none)
  | _ => none⟩
/-- A strings.Builder's text. -/
def bldS (g : FuncId) (T : TypeId) : ConS := ⟨g, fun args s => match args with
  | [.ptr b 0] => (match s.boxes[b]? with
    | some [.bld (some i) e l] => if e == T ∧ s.alive[i]? = some true then some ⟨.unit, some (), fun _ => (.str (bytesOf l), { s with alive := s.alive.set i false })⟩ else none
    | _ => none)
  | _ => none⟩
/-- A call that looks at the caller's variables, or turns them. -/
def callS (C : Ctx) (s : St) (f : FuncId) (args : List AV) (K : AV → St → Option R) : Option R :=
  match C.S.find? (fun c => c.id == f) with
  | some c => (match c.run args s with
    | some ⟨_, x, g⟩ => x.bind fun y => K (g y).1 { (g y).2 with tmps := s.tmps }
    | none => none)
  | none => (match C.G.find? (fun c => c.id == f) with
    | some c => if c.sg.any Shp.looks = true then (if c.rs.flat = true then (match decs c.sg (frzs s c.sg args) with
        | some a => (c.f a).bind fun b => K (encR c.rs b) s
        | none => none) else none) else callOf C f args fun v => K v s
    | none => none)
/-- What looks at the call's own variables by the way, the order being the text's. -/
def xm (C : Ctx) (s : St) (o : Op) (K : AV → St → Option R) : Option R :=
  match o with
  | .convert src dst x => (match (C.ti dst).d, (C.ti src).d, ev s x with
    | .str, .sl e, .ms b sz off n => (match (C.ti e).d, rowOf s b with
      | .int .u8, some ⟨.int .u8, l⟩ => if sz = 1 then (lpart l off n).bind fun z => K (.str (bytesOf z)) s else none
      | .int .u8, none => if sz = 1 then (match s.boxes[b]? with
        | some cs => if cs.all AV.plain = true ∧ off + n ≤ cs.length then (match bytesIn ((cs.drop off).take n) with
          | some z => K (.str (bytesOf z)) s
          | none => none) else none
        | none => none) else none
      | _, _ => none)
    | _, _, _ => xa C (ev s) (.convert src dst x) fun v => K v s)
  | .call { callee := .value f, args, argTypes } => (match ev s f with
    | .fn g caps => callS C s g (args.toList.map (ev s) ++ caps) K
    | _ => none)
  | o => xa C (ev s) o fun v => K v s
/-- A new variable. -/
def boxNew (e : TypeId) : List AV → List AV
  | [.nilp, .nilsl] => [.bld0 e]
  | z => z
/-- One operation. 'dr': its region's order is open. -/
def xs (C : Ctx) (dr : Bool) (s : St) (o : Op) (K : AV → St → Option R) : Option R :=
  match o with
  | .alloc e => if (C.ti e).d.known = true then K (.ptr s.boxes.length 0) { s with boxes := s.boxes ++ [boxNew e (C.ti e).zero] } else none
  | .box _ x => if (ev s x).cells.all AV.leaf = true then K (.ptr s.boxes.length 0) { s with boxes := s.boxes ++ [(ev s x).cells] } else none
  | .load t a => xload C s t (ev s a) fun v => K v s
  | .store t a x => (match ev s a with
    | .ptr b i => (match s.boxes[b]? with
      | some cs => if (C.ti t).d.known = true ∧ (ev s x).cells.length = (C.ti t).size ∧ (ev s x).cells.all AV.leaf = true ∧ i + (C.ti t).size ≤ cs.length ∧ cs.all AV.plain = true then K (.tup []) { s with boxes := s.boxes.set b (cs.take i ++ (ev s x).cells ++ cs.drop (i + (C.ti t).size)) } else none
      | none => none)
    | .mse b sz j => (match rowOf s b with
      | some ⟨u, l⟩ => if (C.ti t).d.known = true ∧ u.sz = (C.ti t).size ∧ sz = u.sz ∧ (ev s x).cells.all AV.leaf = true then (match dec u (ev s x).cells with
        | some (y, []) => (lset l j y).bind fun l' => K (.tup []) { s with boxes := s.boxes.set b [.row u l'] }
        | _ => none) else none
      | none => none)
    | _ => none)
  | .buildSlice t n parts => built C (ev s) t n parts.toList fun u l => if dr then (if n = 0 then K (.emp u) s else K (.sl none u l) s) else K (.sl (some s.alive.length) u l) { s with alive := s.alive ++ [true] }
  | .makeSlice t n c => (match (C.ti t).d with
    | .sl e => (match (C.ti e).ty with
      | some u => if (C.ti e).d.known = true ∧ u.sz = (C.ti e).size ∧ dr = false then
          (match ev s n, ev s c with
          | .int _ m, .int k c' => if sameTmp n c = true then (if (C.ti e).zero.length = (C.ti e).size ∧ 0 < (C.ti e).bytes then (match dec u (C.ti e).zero with
              | some (z, []) => if 0 ≤ c' ∧ (C.ti e).bytes * c' ≤ 281474976710656 then K (.ms s.boxes.length u.sz 0 c'.toNat) { s with boxes := s.boxes ++ [[.row u (List.replicate c'.toNat z)]] } else none
              | _ => none) else none)
            else if m = 0 ∧ 0 ≤ c' ∧ (C.ti e).bytes * c' ≤ 281474976710656 ∧ c' ≤ 9223372036854775807 then K (.sl (some s.alive.length) u []) { s with alive := s.alive ++ [true] } else none
          | _, _ => none) else none
      | none => none)
    | _ => none)
  | .call { callee := .builtin .append, args, argTypes } => (match args.toList, argTypes.toList with
    | [base, x], [t, t'] => (match (C.ti t).d with
      | .sl e => (match (C.ti e).ty with
        | some u => if t = t' ∧ (C.ti e).d.known = true ∧ (C.ti e).zero.length = (C.ti e).size ∧ u.sz = (C.ti e).size ∧ 0 < (C.ti e).size ∧ 0 < (C.ti e).bytes then
            (match listOf u (ev s x), ev s base with
            | some m, .emp _ => (lcat (C.ti e).bytes [] m).bind fun z => K (.sl none u z) s
            | some m, .nilsl => (lcat (C.ti e).bytes [] m).bind fun z => K (.sl (some s.alive.length) u z) { s with alive := s.alive ++ [true] }
            | some m, .sl (some i) u' l => (match Ty.same u' u, s.alive[i]? with
              | some ⟨h⟩, some true => (lcat (C.ti e).bytes (h ▸ l) m).bind fun z => K (.sl (some s.alive.length) u z) { s with alive := (s.alive.set i false) ++ [true] }
              | _, _ => none)
            | _, _ => none) else none
        | none => none)
      | _ => none)
    | _, _ => none)
  | .makeMap t none => (match (C.ti t).d with
    | .map k e => (match keyTy (C.ti k).d with
      | some u => if (C.ti e).d.isBool = true ∧ (C.ti e).eq = true ∧ dr = false then K (.mp s.boxes.length) { s with boxes := s.boxes ++ [[.keys k e u []]] } else none
      | none => none)
    | _ => none)
  | .lookup t m x false => (match (C.ti t).d, ev s m with
    | .map k e, .mp b => (match s.boxes[b]? with
      | some [.keys k' e' u l] => if k = k' ∧ e = e' ∧ dr = false then keyIn u l (ev s x) fun v => K v s else none
      | _ => none)
    | _, _ => none)
  | .mapUpdate t m x (.const (.bool true)) => (match (C.ti t).d, ev s m with
    | .map k e, .mp b => (match s.boxes[b]? with
      | some [.keys k' e' u l] => if k = k' ∧ e = e' ∧ dr = false then keyAdd u l (ev s x) fun l' => K (.tup []) { s with boxes := s.boxes.set b [.keys k e u l'] } else none
      | _ => none)
    | _, _ => none)
  | .range t x => (match (C.ti t).d, ev s x with
    | .str, .str z => if dr = false then K (.ptr s.boxes.length 0) { s with boxes := s.boxes ++ [[.itr z 0]] } else none
    | _, _ => none)
  | .next x true => (match ev s x with
    | .ptr b 0 => (match s.boxes[b]? with
      | some [.itr z pos] => if dr = false then @ite _ (pos < z.size) inferInstance
          (K (.tup [.b true, .int .i64 pos, .int .i32 (Utf8.decode z pos).1]) { s with boxes := s.boxes.set b [.itr z (pos + (Utf8.decode z pos).2)] })
          (K (.tup [.b false]) s) else none
      | _ => none)
    | _ => none)
  | .call { callee := .builtin .copy, args, argTypes } => (match args.toList, argTypes.toList with
    | [x, y], [t, _] => (match (C.ti t).d, ev s x with
      | .sl e, .ms b sz off n => if (C.ti e).d.known = true ∧ sz = (C.ti e).size then (match rowOf s b with
        | some ⟨u, l⟩ => if sz = u.sz then (match listOf u (ev s y) with
          | some m => (lcopy l off n m).bind fun l' => K (.int .i64 ((min m.length n : Nat) : Int)) { s with boxes := s.boxes.set b [.row u l'] }
          | none => none) else none
        | none => if sz = 1 ∧ dr = false then (match ev s y, s.boxes[b]? with
          | .str z, some cs => if cs.all AV.plain = true ∧ off + n ≤ cs.length then (match overStr z 0 ((cs.drop off).take n) with
            | some c => K (.int .i64 ((min z.size n : Nat) : Int)) { s with boxes := s.boxes.set b (cs.take off ++ c ++ cs.drop (off + n)) }
            | none => none) else none
          | _, _ => none) else none) else none
      | _, _ => none)
    | _, _ => none)
  | o => if dr = true then xa C (ev s) o fun v => K v s else xm C s o K
def guardTmp (ops : Array Oper) (j : Nat) : Option Tmp := (ops[j]?).bind (·.dst)
def isAlloc : Op → Bool
  | .alloc _ => true
  | _ => false
def isStore : Op → Bool
  | .store .. => true
  | .call { callee := .builtin .copy, .. } => true
  | _ => false
def isLoad : Op → Bool
  | .load .. => true
  | _ => false
/-- For each operation the ones that are surely ahead of it. -/
def aft (o : Oper) : List Edge := o.after.toList.filter fun e => Region.binds .any e
def ancOf (acc : List (List Nat)) (o : Oper) : List Nat := (aft o).flatMap fun e => e.on :: acc.getD e.on []
def ancs : List Oper → List (List Nat) → List (List Nat)
  | [], acc => acc
  | o :: r, acc => ancs r (acc ++ [ancOf acc o])
/-- The same as the bits of a number. -/
def mskOf (acc : List Nat) (o : Oper) : Nat := (aft o).foldl (fun m e => (m ||| 2 ^ e.on) ||| acc.getD e.on 0) 0
def msks : List Oper → List Nat → List Nat
  | [], acc => acc
  | o :: r, acc => msks r (acc ++ [mskOf acc o])
/-- Is a load beside a store of which it isn't known which is ahead? -/
def freeLoad (ops : Array Oper) (o : Oper) : Bool := isLoad o.op && (let A := msks ops.toList []; let i := ops.toList.findIdx fun q => q.dst == o.dst
  ops.toList.zipIdx.any fun q => isStore q.1.op && !(if q.2 < i then (A.getD i 0).testBit q.2 else (A.getD q.2 0).testBit i))
def isLoadB (ops : Array Oper) (o : Oper) : Bool := isLoad o.op && !freeLoad ops o
/-- All that is stored goes into variables that the region makes. -/
def storesFresh (ops : Array Oper) : Bool := ops.toList.all fun q => !isStore q.op || (match q.op with | .store _ (.tmp d) _ => ops.toList.any fun p => p.dst == some d && isAlloc p.op | _ => false)
def nOld (ops : Array Oper) (s : St) : Nat := s.boxes.length - ops.toList.countP fun q => isAlloc q.op
/-- All that is stored, and of which it isn't known whether it's ahead of this load, goes into other variables. -/
def offAll (ops : Array Oper) (s : St) (o : Oper) (b : Nat) : Bool := o.dst.isSome && (let A := msks ops.toList []; let i := ops.toList.findIdx fun q => q.dst == o.dst
  ops.toList.zipIdx.all fun q => !isStore q.1.op || (if q.2 < i then (A.getD i 0).testBit q.2 else (A.getD q.2 0).testBit i) ||
    (match q.1.op with | .store _ (.tmp d) _ => (ops.toList.all fun p => p.dst != some d) && (match s.tmps.getD d .junk with | .ptr b' _ => b' != b | _ => false) | _ => false))
/-- Such a load reads what no store of the region can touch: an element, or a variable that was there, where all stores go to new ones, or another one than those that are stored into. -/
def badOp (ops : Array Oper) (s : St) (o : Oper) : Bool :=
  match o.op with
  | .load _ x => freeLoad ops o && !(match ev s x with | .elp .. => true | .ptr b _ => (storesFresh ops && decide (b < nOld ops s)) || offAll ops s o b | _ => false)
  | .store _ x _ => storesFresh ops && !(match ev s x with | .ptr b _ => decide (nOld ops s ≤ b) | _ => false)
  | _ => false
def xsd (C : Ctx) (dr : Bool) (ops : Array Oper) (s : St) (o : Oper) (K : AV → St → Option R) : Option R := if dr = true ∧ badOp ops s o = true then none else xs C dr s o.op K
/-- The operations of a region, as they stand. (Where the order is open, new variables have been made ahead of all.) -/
def xops (C : Ctx) (dr : Bool) (ops : Array Oper) : List Oper → St → (St → Option R) → Option R
  | [], s, K => K s
  | o :: r, s, K => if dr = true ∧ isAlloc o.op = true then xops C dr ops r s K else match o.guard with
    | none => xsd C dr ops s o fun v s' => xops C dr ops r (s'.put o.dst v) K
    | some (j, w) => match guardTmp ops j with
      | none => xops C dr ops r (s.put o.dst (.tup [])) K
      | some t => match s.tmps.getD t .junk with
        | .bool p d => @ite _ p d
            (if w then xsd C dr ops (s.put (some t) (.bool True inferInstance)) o fun v s' => xops C dr ops r (s'.put o.dst v) K else xops C dr ops r ((s.put (some t) (.bool True inferInstance)).put o.dst (.tup [])) K)
            (if w then xops C dr ops r ((s.put (some t) (.bool False inferInstance)).put o.dst (.tup [])) K else xsd C dr ops (s.put (some t) (.bool False inferInstance)) o fun v s' => xops C dr ops r (s'.put o.dst v) K)
        | .tup [] => xops C dr ops r (s.put o.dst (.tup [])) K
        | _ => none
def preAlloc (C : Ctx) : List Oper → St → St
  | [], s => s
  | o :: r, s => match o.op with
    | .alloc e => preAlloc C r ({ s with boxes := s.boxes ++ [(C.ti e).zero] }.put o.dst (.ptr s.boxes.length 0))
    | _ => preAlloc C r s
/-- May the region be run as it stands, though its order is open? -/
def isHeap : Op → Bool
  | .store .. => true
  | .call { callee := .builtin .append, .. } => true
  | .call { callee := .builtin .copy, .. } => true
  | _ => false
def drawOp (C : Ctx) (o : Oper) : Bool :=
  match o.op with
  | .select .. | .makeSlice .. | .box .. | .makeMap .. | .lookup .. | .mapUpdate .. | .range .. | .next .. => false
  | .alloc e => o.guard.isNone && (C.ti e).d.known
  | _ => true
def beside (ops : List Oper) (A : List Nat) (i j : Nat) (o p : Oper) : Bool :=
  (match p.dst with
   | some d => o.dst != some d && (!((o.looksAt ops.toArray).contains d) || (A.getD i 0).testBit j || (!isAlloc p.op && (A.getD j 0).testBit i))
   | none => true) &&
  (!(isHeap o.op && (isHeap p.op || (isStore o.op && isLoadB ops.toArray p))) || (if j < i then (A.getD i 0).testBit j else (A.getD j 0).testBit i)) &&
  (!(isHeap o.op && isAlloc p.op) || (A.getD i 0).testBit j)
def drawOk (C : Ctx) (ops : List Oper) : Bool :=
  let A := msks ops []
  ops.zipIdx.all fun q => drawOp C q.1 && (match q.1.dst with | some d => !(q.1.looksAt ops.toArray).contains d | none => true) && ((aft q.1).all fun e => decide (e.on < q.2)) &&
    ops.zipIdx.all fun p => p.2 == q.2 || beside ops A q.2 p.2 q.1 p.1
/-- What is left of a state at the end of a region, all others of its temporaries being let go. -/
def outTy : List (Nat × Ty) → Ty
  | [] => .unit
  | [q] => q.2
  | q :: r :: l => .pair q.2 (outTy (r :: l))
def outOf (s : St) : (l : List (Nat × Ty)) → Option (El (outTy l))
  | [] => some ()
  | [q] => (match dec q.2 [s.tmps.getD q.1 .junk] with | some (x, []) => some x | _ => none)
  | q :: r :: l => match dec q.2 [s.tmps.getD q.1 .junk], outOf s (r :: l) with
    | some (x, []), some y => some (x, y)
    | _, _ => none
def outPut (s : St) : (l : List (Nat × Ty)) → El (outTy l) → St
  | [], _ => s
  | [q], x => s.put (some q.1) ((enc q.2 x).headD .junk)
  | q :: r :: l, x => outPut (s.put (some q.1) ((enc q.2 x.1).headD .junk)) (r :: l) x.2
/-- May what is called turn the caller's variables? -/
def mayTurn (C : Ctx) : Operand → Bool
  | .func f => (C.S.find? (fun c => c.id == f)).isSome
  | _ => !C.S.isEmpty
def plainOps (C : Ctx) (ops : List Oper) : Bool := ops.all fun o => match o.op with
  | .alloc .. | .box .. | .store .. | .buildSlice .. | .makeSlice .. | .makeMap .. | .lookup .. | .mapUpdate .. | .range .. | .next .. => false
  | .call { callee := .builtin .append, .. } => false
  | .call { callee := .builtin .copy, .. } => false
  | .call { callee := .value f, .. } => !mayTurn C f
  | _ => true
def letGo (s : St) (ops : List Oper) : St := ops.foldl (fun s o => s.put o.dst .junk) s
def xregion (C : Ctx) (id : Nat) (ops : Array Oper) (dr : Bool) (s : St) (K : St → Option R) : Option R :=
  if dr = true then (if drawOk C ops.toList = true then xregionIn (preAlloc C ops.toList s) else none) else xregionIn s
where xregionIn (s : St) : Option R :=
  match C.an.join.find? (fun q => q.1 == id) with
  | some q => if plainOps C ops.toList = true then (xops C dr ops ops.toList s fun s' => outOf s' q.2).bind fun y => K (outPut (letGo s ops.toList) q.2 y) else none
  | none => xops C dr ops ops.toList s K
/-- A state at the beginning of a loop's round. -/
def firstRegion : Code → Option Nat
  | .region id _ _ => some id
  | .seq a b => (firstRegion a).orElse fun _ => firstRegion b
  | .cond _ a b => (firstRegion a).orElse fun _ => firstRegion b
  | .block _ b | .loop b | .scope b => firstRegion b
  | _ => none
def clearLeaf (m : Nat) : AV → Bool
  | .ptr b _ => b < m
  | .mp b => b < m
  | .ms b _ _ _ => b < m
  | .mse b _ _ => b < m
  | .fn _ caps => caps.all fun v => match v with
    | .ptr b _ => b < m
    | .elp .. => true
    | _ => false
  | .agg _ | .tup _ => false
  | _ => true
def AV.clear (m : Nat) : AV → Bool
  | .agg cs => cs.all (clearLeaf m)
  | .tup cs => cs.isEmpty
  | v => clearLeaf m v
/-- The call's own slices that may still grow, in the order in which they stand. -/
def ownsOf (alive : List Bool) : List AV → List Nat → List Nat
  | [], acc => acc
  | .sl (some i) _ _ :: r, acc => if alive.getD i false && !acc.contains i then ownsOf alive r (acc ++ [i]) else ownsOf alive r acc
  | .bld (some i) _ _ :: r, acc => if alive.getD i false && !acc.contains i then ownsOf alive r (acc ++ [i]) else ownsOf alive r acc
  | _ :: r, acc => ownsOf alive r acc
def renumLeaf (ids : List Nat) : AV → AV
  | .bool p d => .b (@decide p d)
  | .sl (some i) t l => .sl (if ids.contains i then some (ids.idxOf i) else none) t l
  | .bld (some i) T l => .bld (if ids.contains i then some (ids.idxOf i) else none) T l
  | v => v
def renum (ids : List Nat) : AV → AV
  | .agg cs => .agg (cs.map (renumLeaf ids))
  | v => renumLeaf ids v
def keepOnly (lv : List Nat) : Nat → List AV → List AV
  | _, [] => []
  | i, v :: r => (if lv.contains i then v else .junk) :: keepOnly lv (i + 1) r
def forget (lv : List Nat) (m : Nat) (s : St) : Option St :=
  let ts := keepOnly lv 0 s.tmps
  let bs := s.boxes.take m
  if ts.all (AV.clear m) && bs.all (fun b => b.all (clearLeaf m)) then
    let ids := ownsOf s.alive (bs.flatten ++ ts.flatMap AV.cells) []
    some ⟨ts.map (renum ids), bs.map (fun b => b.map (renumLeaf ids)), ids.map fun _ => true⟩
  else none
def step (C : Ctx) (rec : List Item → St → Option R) (fin : St → Option R) : Nat → List Item → St → Option R
  | 0, _, _ => none
  | m + 1, todo, s => match todo with
    | [] => fin s
    | .code c :: k => (match c with
      | .skip => step C rec fin m k s
      | .label _ => step C rec fin m k s
      | .seq a b => step C rec fin m (.code a :: .code b :: k) s
      | .cond c a b => (match c, ev s c with
        | .tmp t, .bool p d => @ite _ p d (step C rec fin m (.code a :: k) (s.put (some t) (.bool True inferInstance))) (step C rec fin m (.code b :: k) (s.put (some t) (.bool False inferInstance)))
        | _, .bool p d => @ite _ p d (step C rec fin m (.code a :: k) s) (step C rec fin m (.code b :: k) s)
        | _, _ => none)
      | .block id b => step C rec fin m (.code b :: .inBlock id :: k) s
      | .loop b => rec (.inLoop b :: k) s
      | .scope b => step C rec fin m (.code b :: .inScope b :: k) s
      | .exit id => (match exitTo id k with | some k' => step C rec fin m k' s | none => none)
      | .goto l => (match gotoIn l k with | some k' => step C rec fin m k' s | none => none)
      | .ret => fin s
      | .region id ops dr => xregion C id ops dr s fun s' => step C rec fin m k s'
      | _ => none)
    | .inBlock _ :: k => step C rec fin m k s
    | .inScope _ :: k => step C rec fin m k s
    | .inLoop b :: k => rec (.inLoop b :: k) s
    | _ => none
def steps : Nat := 1000000
/-- At a loop's round: what is not wanted any more is let go. -/
def atLoop (C : Ctx) (todo : List Item) (s : St) (K : St → Option R) : Option R :=
  match todo with
  | .inLoop b :: _ => (match firstRegion b with
    | some id => (match C.an.live.find? (fun q => q.1 == id) with
      | some q => (match forget q.2.1 q.2.2 s with
        | some s' => K s'
        | none => none)
      | none => none)
    | none => none)
  | _ => none
def run (C : Ctx) (fin : St → Option R) : Nat → List Item → St → Option R
  | 0, _, _ => none
  | n + 1, todo, s => match todo with
    | .inLoop b :: k => step C (fun todo s => atLoop C todo s (run C fin n todo)) fin steps (.code b :: .inLoop b :: k) s
    | _ => none
end
/-- What a function answers, by its code. -/
def resOf (C : Ctx) (s : St) : ResultVar → Option AV
  | .tmp t => some (s.tmps.getD t .junk)
  | .cell a t => xload C s t (s.tmps.getD a .junk) some
def resAll (C : Ctx) (s : St) : List ResultVar → Option (List AV)
  | [] => some []
  | r :: l => match resOf C s r, resAll C s l with
    | some v, some vs => some (v :: vs)
    | _, _ => none
/-- At the end elements that were written stay as they are. -/
def thawLeaf {R : Type} (s : St) (v : AV) (K : AV → Option R) : Option R :=
  match v with
  | .ms b sz 0 n => (match rowOf s b with
    | some ⟨u, l⟩ => if sz = u.sz then (lpart l 0 n).bind fun z => K (.sl none u z) else none
    | none => none)
  | v => K v
def thawLeaves {R : Type} (s : St) : List AV → (List AV → Option R) → Option R
  | [], K => K []
  | v :: l, K => thawLeaf s v fun v' => thawLeaves s l fun l' => K (v' :: l')
def thaw {R : Type} (s : St) (v : AV) (K : AV → Option R) : Option R :=
  match v with
  | .agg cs => thawLeaves s cs fun cs' => K (.agg cs')
  | v => thawLeaf s v K
def thaws {R : Type} (s : St) : List AV → (List AV → Option R) → Option R
  | [], K => K []
  | v :: l, K => thaw s v fun v' => thaws s l fun l' => K (v' :: l')
def finOf (C : Ctx) (fn : Func) (rs : Rs) (s : St) : Option (El rs.ty) :=
  match resAll C s fn.results.toList with
  | some [v] => thaw s v fun v' => decR rs v'
  | some vs => thaws s vs fun vs' => decR rs (.tup vs')
  | none => none
def enter (fn : Func) (args : List AV) : St := ⟨args ++ List.replicate (fn.ntmps - args.length) (.tup []), [], []⟩
/-- A function, called with these. -/
def call (C : Ctx) (fn : Func) (c : Code) (sg : List Shp) (rs : Rs) (n : Nat) (a : El (sgTy sg)) : Option (El rs.ty) :=
  step C (fun todo s => atLoop C todo s (run C (finOf C fn rs) n todo)) (finOf C fn rs) steps [.code c] (enter fn (encs sg a))
end Go.Proofs.YtkaihbkfobiejaaGreatDoor.Xe
