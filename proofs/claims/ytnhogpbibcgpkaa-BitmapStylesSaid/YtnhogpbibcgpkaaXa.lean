/- An executor of the program's code on values, for proofs: its words. -/
import Derived.Orders
import Derived.Laws.Entries
namespace Go.Proofs.Ytnhogpbibcgpkaa.Xe
open Go
/-- Types of values: numbers, texts, slices and what is put together of them. -/
inductive Ty where
  | int (k : IntKind)
  | bool
  | str
  | unit
  | pair (a b : Ty)
  | sl (t : Ty)
@[reducible] def El : Ty → Type
  | .int _ => Int
  | .bool => Bool
  | .str => ByteArray
  | .unit => Unit
  | .pair a b => El a × El b
  | .sl t => List (El t)
def Ty.sz : Ty → Nat
  | .unit => 0
  | .pair a b => a.sz + b.sz
  | _ => 1
def Ty.same : (a b : Ty) → Option (PLift (a = b))
  | .int k, .int l => if h : k = l then some ⟨by rw [h]⟩ else none
  | .bool, .bool => some ⟨rfl⟩
  | .str, .str => some ⟨rfl⟩
  | .unit, .unit => some ⟨rfl⟩
  | .pair a b, .pair c d => match Ty.same a c, Ty.same b d with
    | some ⟨h⟩, some ⟨g⟩ => some ⟨by rw [h, g]⟩
    | _, _ => none
  | .sl a, .sl b => match Ty.same a b with
    | some ⟨h⟩ => some ⟨by rw [h]⟩
    | none => none
  | _, _ => none
/-- Values as the executor has them. A slice is its elements; 'own': it is one of the call's own that may grow in place; 'ptr': the address of a cell of a variable of the call's own; 'elp': that of a cell of an element; 'mp': a map of the call's own, of which the variable has the keys; 'row': elements of the call's own that are written, 'ms': a slice over them (or over an array), 'mse': the address of one of them; 'emp': a slice that has no room; 'bld': what a strings.Builder holds ('bld0': that it is new). -/
inductive AV where
  | int (k : IntKind) (n : Int)
  | bool (p : Prop) (d : Decidable p)
  | str (s : ByteArray)
  | sl (own : Option Nat) (t : Ty) (l : List (El t))
  | nilsl
  | ptr (b off : Nat)
  | nilp
  | elp (t : Ty) (x : El t) (off : Nat)
  | fn (f : FuncId) (caps : List AV)
  | mp (b : Nat)
  | keys (k e : TypeId) (t : Ty) (l : List (El t))
  | itr (s : ByteArray) (pos : Nat)
  | row (t : Ty) (l : List (El t))
  | ms (b sz off len : Nat)
  | mse (b sz off : Nat)
  | emp (t : Ty)
  | bld (i : Option Nat) (T : TypeId) (l : List Int)
  | bld0 (e : TypeId)
  | agg (cs : List AV)
  | tup (cs : List AV)
  | junk
@[reducible] def AV.b (b : Bool) : AV := .bool (b = true) (instDecidableEqBool b true)
def AV.cells : AV → List AV
  | .agg cs => cs
  | v => [v]
def AV.leaf : AV → Bool
  | .agg _ | .tup _ | .junk | .keys .. | .itr .. | .row .. | .bld .. | .bld0 .. => false
  | _ => true
def AV.plain : AV → Bool
  | .keys .. | .itr .. | .row .. | .bld .. | .bld0 .. => false
  | _ => true
def enc : (t : Ty) → El t → List AV
  | .int k, n => [.int k n]
  | .bool, b => [.b b]
  | .str, s => [.str s]
  | .unit, _ => []
  | .pair a b, x => enc a x.1 ++ enc b x.2
  | .sl t, l => [.sl none t l]
def dec : (t : Ty) → List AV → Option (El t × List AV)
  | .int k, .int l n :: r => if k = l then some (n, r) else none
  | .bool, .bool p d :: r => some (@decide p d, r)
  | .str, .str s :: r => some (s, r)
  | .unit, r => some ((), r)
  | .pair a b, r => match dec a r with
    | none => none
    | some (x, r1) => match dec b r1 with
      | none => none
      | some (y, r2) => some ((x, y), r2)
  | .sl t, .sl _ t' l :: r => match Ty.same t' t with
    | some ⟨h⟩ => some (h ▸ l, r)
    | none => none
  | .sl _, .nilsl :: r => some ([], r)
  | .sl _, .emp _ :: r => some ([], r)
  | _, _ => none
/-- How a value is laid: alone, or as a struct's or an array's cells; as the address of cells that stay; as a function with what it has caught (addresses of cells that stay). -/
inductive Shp where
  | v (t : Ty)
  | a (t : Ty)
  | p (t : Ty)
  | fn (f : FuncId) (l : List Ty)
@[reducible] def tysOf : List Ty → Ty
  | [] => .unit
  | [t] => t
  | t :: r :: l => .pair t (tysOf (r :: l))
@[reducible] def Shp.ty : Shp → Ty
  | .v t => t
  | .a t => t
  | .p t => t
  | .fn _ l => tysOf l
def encPs : (l : List Ty) → El (tysOf l) → List AV
  | [], _ => []
  | [t], x => [.elp t x 0]
  | t :: r :: l, x => .elp t x.1 0 :: encPs (r :: l) x.2
def enc1 : (s : Shp) → El s.ty → AV
  | .v t, x => (enc t x).headD .junk
  | .a t, x => .agg (enc t x)
  | .p t, x => .elp t x 0
  | .fn f l, x => .fn f (encPs l x)
def decP (t : Ty) : AV → Option (El t)
  | .elp u x 0 => (match Ty.same u t with
    | some ⟨h⟩ => some (h ▸ x)
    | none => none)
  | _ => none
def decPs : (l : List Ty) → List AV → Option (El (tysOf l))
  | [], [] => some ()
  | [t], [v] => decP t v
  | t :: r :: l, v :: vs => match decP t v, decPs (r :: l) vs with
    | some x, some y => some (x, y)
    | _, _ => none
  | _, _ => none
def dec1 : (s : Shp) → AV → Option (El s.ty)
  | .v t, v => match dec t [v] with
    | some (x, []) => some x
    | _ => none
  | .a t, .agg cs => match dec t cs with
    | some (x, []) => some x
    | _ => none
  | .a _, _ => none
  | .p t, v => decP t v
  | .fn f l, .fn g caps => if g = f then decPs l caps else none
  | .fn _ _, _ => none
@[reducible] def sgTy : List Shp → Ty
  | [] => .unit
  | [s] => s.ty
  | s :: r :: l => .pair s.ty (sgTy (r :: l))
def encs : (sg : List Shp) → El (sgTy sg) → List AV
  | [], _ => []
  | [s], x => [enc1 s x]
  | s :: r :: l, x => enc1 s x.1 :: encs (r :: l) x.2
def decs : (sg : List Shp) → List AV → Option (El (sgTy sg))
  | [], [] => some ()
  | [s], [v] => dec1 s v
  | s :: r :: l, v :: vs => match dec1 s v, decs (r :: l) vs with
    | some x, some y => some (x, y)
    | _, _ => none
  | _, _ => none
inductive Rs where
  | one (s : Shp)
  | tup (l : List Shp)
@[reducible] def Rs.ty : Rs → Ty
  | .one s => s.ty
  | .tup l => sgTy l
def encR : (r : Rs) → El r.ty → AV
  | .one s, x => enc1 s x
  | .tup l, x => .tup (encs l x)
def decR : (r : Rs) → AV → Option (El r.ty)
  | .one s, v => dec1 s v
  | .tup l, .tup vs => decs l vs
  | .tup _, _ => none
/-- What a function that is called answers. -/
structure Con where
  id : FuncId
  sg : List Shp
  rs : Rs
  f : El (sgTy sg) → Option (El rs.ty)
/-- What of a type is wanted. -/
inductive D where
  | int (k : IntKind)
  | bool
  | str
  | sl (e : TypeId)
  | arr (n : Nat) (e : TypeId)
  | st (fs : List (TypeId × Nat))
  | map (k e : TypeId)
  | cell
  | other
structure TI where
  d : D
  size : Nat
  bytes : Nat
  zero : List AV
  ty : Option Ty
  eq : Bool
/-- What is known of a function besides its code: at which loops (by the first region in them) which temporaries are wanted, and how many variables; at the end of which regions all but some temporaries are let go. -/
structure An where
  live : List (Nat × List Nat × Nat) := []
  join : List (Nat × List (Nat × Ty)) := []
structure St where
  tmps : List AV
  boxes : List (List AV)
  alive : List Bool
/-- What a function that turns the caller's variables does. -/
structure ConS where
  id : FuncId
  run : List AV → St → Option (Σ t : Ty, Option (El t) × (El t → AV × St))
structure Ctx where
  T : List TI
  G : List Con
  S : List ConS
  an : An
def Ctx.ti (C : Ctx) (t : TypeId) : TI := C.T.getD t ⟨.other, 0, 0, [], none, false⟩
def D.isAgg : D → Bool
  | .arr .. | .st _ => true
  | _ => false
def D.known : D → Bool
  | .other => false
  | _ => true
def D.scal : D → Bool
  | .int _ | .bool | .str => true
  | _ => false
def ofLeaf : Value → AV
  | .bool b => .b b
  | .int k n => .int k n
  | .string s => .str s
  | .pointer none => .nilp
  | .slice none 0 0 => .nilsl
  | _ => .junk
def ofV : Value → AV
  | .agg cs => .agg (cs.toList.map ofLeaf)
  | .tuple cs => .tup (cs.toList.map ofLeaf)
  | v => ofLeaf v
def ev (s : St) : Operand → AV
  | .tmp t => s.tmps.getD t .junk
  | .const v => ofV v
  | .global _ => .junk
  | .func f => .fn f []
def St.put (s : St) (dst : Option Tmp) (v : AV) : St :=
  match dst with
  | none => s
  | some d => { s with tmps := s.tmps.set d v }
/-! ### What may fail -/
def bget (s : ByteArray) (i : Int) : Option UInt8 := if 0 ≤ i then s[i.toNat]? else none
def lget {α : Type} (l : List α) (i : Int) : Option α := if 0 ≤ i then l[i.toNat]? else none
def ssub (s : ByteArray) (lo hi : Int) : Option ByteArray := if 0 ≤ lo ∧ lo ≤ hi ∧ hi ≤ (s.size : Int) then some (s.extract lo.toNat hi.toNat) else none
def lsub {α : Type} (l : List α) (lo hi : Int) : Option (List α) := if 0 ≤ lo ∧ lo ≤ hi ∧ hi ≤ (l.length : Int) then some ((l.take hi.toNat).drop lo.toNat) else none
def scat (a b : ByteArray) : Option ByteArray := if a.size + b.size ≤ 9223372036854775807 then some (a ++ b) else none
def lcat {α : Type} (bytes : Nat) (a b : List α) : Option (List α) := if (a.length + b.length) * bytes ≤ 70368744177664 then some (a ++ b) else none
def lset {α : Type} (l : List α) (j : Nat) (x : α) : Option (List α) := if j < l.length then some (l.set j x) else none
/-- Elements that are laid over others, from a place on, no more than there is room for. -/
def lcopy {α : Type} (l : List α) (off len : Nat) (m : List α) : Option (List α) := if off + len ≤ l.length then some (l.take off ++ m.take len ++ l.drop (off + min m.length len)) else none
def lpart {α : Type} (l : List α) (off len : Nat) : Option (List α) := if off + len ≤ l.length then some ((l.drop off).take len) else none
def scopy (z : ByteArray) (i : Nat) (old : Int) : Int := if i < z.size then ((z.data.getD i 0).toNat : Int) else old
def bytesOf (l : List Int) : ByteArray := ⟨(l.map fun n => UInt8.ofNat n.toNat).toArray⟩
section
variable {R : Type}
/-! ### Operations that read their operands alone -/
def bop (op : BinOp) (k : IntKind) (x y : Int) (K : AV → Option R) : Option R :=
  match op with
  | .add => K (.int k (k.wrap (x + y)))
  | .sub => K (.int k (k.wrap (x - y)))
  | .mul => K (.int k (k.wrap (x * y)))
  | .quo => if y = 0 then none else K (.int k (k.wrap (x.tdiv y)))
  | .rem => if y = 0 then none else K (.int k (x.tmod y))
  | .and | .or | .xor | .andNot => K (.int k (Go.bits op k x y))
  | .eql => K (.bool (x = y) inferInstance)
  | .neq => K (.bool (¬ x = y) inferInstance)
  | .lss => K (.bool (x < y) inferInstance)
  | .leq => K (.bool (x ≤ y) inferInstance)
  | .gtr => K (.bool (x > y) inferInstance)
  | .geq => K (.bool (x ≥ y) inferInstance)
  | _ => none
def shop (op : BinOp) (k : IntKind) (x y : Int) (K : AV → Option R) : Option R :=
  match op with
  | .shl => if y < 0 then none else K (.int k (k.wrap (x * 2 ^ (min y.toNat k.bits))))
  | .shr => if y < 0 then none else K (.int k (x.fdiv (2 ^ (min y.toNat k.bits))))
  | _ => none
def sop (op : BinOp) (x y : ByteArray) (K : AV → Option R) : Option R :=
  match op with
  | .add => (scat x y).bind fun z => K (.str z)
  | .eql => K (.bool (x = y) inferInstance)
  | .neq => K (.bool (¬ x = y) inferInstance)
  | _ => none
/-- Are two of each cells the same? -/
def same : List D → List AV → List AV → Option (Σ' p : Prop, Decidable p)
  | [], [], [] => some ⟨True, inferInstance⟩
  | .int _ :: ds, .int k x :: r, .int m y :: l => if k = m then (match same ds r l with
    | some ⟨p, d⟩ => some ⟨x = y ∧ p, @instDecidableAnd _ _ inferInstance d⟩
    | none => none) else none
  | .bool :: ds, .bool p d :: r, .bool q e :: l => match same ds r l with
    | some ⟨o, f⟩ => some ⟨(@decide p d = @decide q e) ∧ o, @instDecidableAnd _ _ inferInstance f⟩
    | none => none
  | .str :: ds, .str x :: r, .str y :: l => match same ds r l with
    | some ⟨p, d⟩ => some ⟨x = y ∧ p, @instDecidableAnd _ _ inferInstance d⟩
    | none => none
  | _, _, _ => none
def sameK (q : Option (Σ' p : Prop, Decidable p)) (op : BinOp) (K : AV → Option R) : Option R :=
  match q, op with
  | some ⟨p, d⟩, .eql => K (.bool p d)
  | some ⟨p, d⟩, .neq => K (.bool (¬ p) (@instDecidableNot p d))
  | _, _ => none
end
end Go.Proofs.Ytnhogpbibcgpkaa.Xe
