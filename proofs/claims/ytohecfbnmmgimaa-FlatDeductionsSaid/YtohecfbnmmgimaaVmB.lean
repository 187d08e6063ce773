/-
  The abstract operations of the interpreter. Conditions: none; definitions.
-/
import Derived.Test.YtohecfbnmmgimaaVmA
import Derived.Below
namespace Go.Vm
open Go.RowKit
set_option linter.unusedVariables false

/-- The abstract state of a frame. -/
structure ASt (U : Univ) where
  tmps : Nat → AVal U
  objs : Nat → Option (AObj U)

section
variable {U : Univ}
def ASt.set (s : ASt U) (d : Nat) (v : AVal U) : ASt U := ⟨fun t => cond (Nat.beq t d) v (s.tmps t), s.objs⟩
def ASt.obj (s : ASt U) (id : Nat) (o : AObj U) : ASt U := ⟨s.tmps, fun i => cond (Nat.beq i id) (some o) (s.objs i)⟩
def ASt.put (s : ASt U) : Option Tmp → AVal U → ASt U
  | some d, v => s.set d v
  | none, _ => s
def ASt.putObj (s : ASt U) : Option (Nat × AObj U) → ASt U
  | some (id, o) => s.obj id o
  | none => s

def ofConst : Value → AVal U
  | .int k n => .int k n
  | .bool b => .bool b
  | .string s => .str s
  | .slice none 0 0 => .nils
  | v => .raw v

def ASt.eval (s : ASt U) : Operand → AVal U
  | .tmp t => s.tmps t
  | .const v => ofConst v
  | .func f => .fn f []
  | .global _ => .any

def AVal.cellsOf : AVal U → List (AVal U)
  | .agg l => l
  | v => [v]

def isAggT (P : Program) (t : TypeId) : Bool :=
  match P.underlying t with
  | some (.struct _) => true
  | some (.array _ _) => true
  | _ => false

def sizeT (P : Program) (t : TypeId) : Option Nat :=
  match P.info? t with
  | some i => some i.size
  | none => none

/-- A value of type t among cells, from off on. -/
def partOf (P : Program) (t : TypeId) (l : List (AVal U)) (off : Nat) : Option (AVal U) :=
  match P.underlying t, sizeT P t with
  | some _, some n => match isAggT P t with
    | true => cond (Nat.ble (off + n) l.length) (some (.agg ((l.drop off).take n))) none
    | false => l[off]?
  | _, _ => none

/-- The memory behind an address: cells and a place among them. -/
def behind (E : Enc U) (look : Nat → Option (AObj U)) : AVal U → Option (List (AVal U) × Nat)
  | .ptr id off => match look id with
    | some (.cells l) => some (l, off)
    | _ => none
  | .eptr id g i off sz => match look id with
    | some (.row t g' xs) => cond (Nat.beq g g' && Nat.beq sz (U.size t)) (some (E.enc t (xs.getD i (E.dflt t)), off)) none
    | _ => none
  | .ref l off => some (l, off)
  | _ => none

/-- Cells put over others, from off on. -/
def setCells (l : List (AVal U)) (off : Nat) : List (AVal U) → List (AVal U)
  | [] => l
  | c :: cs => setCells (l.set off c) (off + 1) cs

/-- May the cells be stored? -/
def storable (look : Nat → Option (AObj U)) : AVal U → Bool
  | .osl id g => match look id with
    | some (.row _ g' _) => Nat.beq g g'
    | _ => false
  | .eptr id g _ _ _ => match look id with
    | some (.row _ g' _) => Nat.beq g g'
    | _ => false
  | v => v.isCell

def storeAt (E : Enc U) (look : Nat → Option (AObj U)) (p : AVal U) (cs : List (AVal U)) : Option (Nat × AObj U) :=
  cond (cs.all (storable look)) (match p with
    | .ptr id off => match look id with
      | some (.cells l) => cond (Nat.ble (off + cs.length) l.length) (some (id, .cells (setCells l off cs))) none
      | _ => none
    | .eptr id g i off sz => match look id with
      | some (.row t g' xs) => cond (Nat.beq g g' && Nat.beq sz (U.size t) && Nat.ble (off + cs.length) (U.size t))
          (match E.dec t (setCells (E.enc t (xs.getD i (E.dflt t))) off cs) with
            | some x => some (id, .row t g (xs.set i x))
            | none => none) none
      | _ => none
    | _ => none) none

/-- Cells of parts put into zero cells, as 'Instr.fill'. -/
def afill (look : Nat → Option (AObj U)) (place : Nat → Option (Nat × Nat)) (cells : List (AVal U)) : List (Nat × AVal U) → Option (List (AVal U))
  | [] => some cells
  | (i, v) :: rest =>
    match place i with
    | none => none
    | some (off, size) => cond (v.cellsOf.all (storable look) && Nat.beq v.cellsOf.length size && Nat.ble (off + v.cellsOf.length) cells.length)
        (afill look place (setCells cells off v.cellsOf) rest) none

def zeroCells (P : Program) (t : TypeId) : Option (List (AVal U)) :=
  match P.info? t with
  | some i => match i.zero with
    | some z => some (z.cells.toList.map ofConst)
    | none => none
  | none => none

/-- Rows of cells as elements. -/
def decRows (E : Enc U) (t : U.τ) : Nat → List (AVal U) → Option (List (U.T t))
  | 0, _ => some []
  | n + 1, l => match E.dec t (l.take (U.size t)), decRows E t n (l.drop (U.size t)) with
    | some x, some xs => some (x :: xs)
    | _, _ => none

/-- An operation on two numbers or texts. -/
def abin (op : BinOp) : AVal U → AVal U → Option (List Prop × AVal U)
  | .int k a, .int k' b => if k = k' then (match op with
      | .add => some ([], .int k (k.wrap (a + b)))
      | .sub => some ([], .int k (k.wrap (a - b)))
      | .mul => some ([], .int k (k.wrap (a * b)))
      | .quo => some ([b ≠ 0], .int k (k.wrap (a.tdiv b)))
      | .rem => some ([b ≠ 0], .int k (a.tmod b))
      | .eql => some ([], .bool (a == b))
      | .neq => some ([], .bool (a != b))
      | .lss => some ([], .bool (decide (a < b)))
      | .leq => some ([], .bool (decide (a ≤ b)))
      | .gtr => some ([], .bool (decide (b < a)))
      | .geq => some ([], .bool (decide (b ≤ a)))
      | _ => none) else none
  | .str a, .str b => match op with
      | .add => some ([(a.size : Int) + b.size ≤ 9223372036854775807], .str (a ++ b))
      | .eql => some ([], .bool (a == b))
      | .neq => some ([], .bool (a != b))
      | _ => none
  | _, _ => none

def aun (op : UnOp) : AVal U → Option (AVal U)
  | .int k a => match op with
    | .neg => some (.int k (k.wrap (0 - a)))
    | _ => none
  | .bool b => match op with
    | .not => some (.bool (!b))
    | _ => none
  | _ => none

/-- The abstract result of an operation: conditions, the value, a block that changes or is new. -/
abbrev Out (U : Univ) := Option (List Prop × AVal U × Option (Nat × AObj U))

def val (v : AVal U) : Out U := some ([], v, none)
def val? (v : Option (AVal U)) : Out U := match v with
  | some v => some ([], v, none)
  | none => none

/-- The struct types whose values are compared field by field. -/
def PlainAt (P : Program) (t : TypeId) : Prop := P.stoodInHeld t = false ∧ P.eqGuardType P.depth t = false ∧ (P.fieldsOf t).toList.all (fun f => f.name != "_") = true

/-- Programs, their elements, the summaries of their functions, the struct types that are compared, and what holds of every world on the way. -/
structure Cfg (U : Univ) where
  P : Program
  E : Enc U
  elt : TypeId → Option U.τ
  sum : FuncId → Option (List (AVal U) → Option (List Prop × AVal U))
  plain : TypeId → Bool
  plainOK : ∀ t, plain t = true → PlainAt P t
  inv : World → Prop
  invOK : ∀ w w', inv w → Below w.heap.size w w' → inv w'

def aeqFields (P : Program) (eq : TypeId → AVal U → AVal U → Option Bool) (xs ys : List (AVal U)) : List Field → Option Bool
  | [] => some true
  | f :: fs => match partOf P f.type xs f.offset, partOf P f.type ys f.offset with
    | some a, some b => match eq f.type a b, aeqFields P eq xs ys fs with
      | some p, some q => some (p && q)
      | _, _ => none
    | _, _ => none
def aeqItems (P : Program) (eq : TypeId → AVal U → AVal U → Option Bool) (e n : Nat) (xs ys : List (AVal U)) : List Nat → Option Bool
  | [] => some true
  | i :: is => match partOf P e xs (i * n), partOf P e ys (i * n) with
    | some a, some b => match eq e a b, aeqItems P eq e n xs ys is with
      | some p, some q => some (p && q)
      | _, _ => none
    | _, _ => none
/-- Are two values of a type equal? -/
def aeq (C : Cfg U) : Nat → TypeId → AVal U → AVal U → Option Bool
  | 0, _, _, _ => none
  | d + 1, t, x, y => match x, y with
    | .bool a, .bool b => match C.P.underlying t with
      | some .bool => some (a == b)
      | _ => none
    | .int k a, .int k' b => match C.P.underlying t with
      | some (.int _) => if k = k' then some (a == b) else none
      | _ => none
    | .str a, .str b => match C.P.underlying t with
      | some .string => some (a == b)
      | _ => none
    | .agg xs, .agg ys => match C.P.underlying t with
      | some (.struct fields) => cond (C.plain t) (aeqFields C.P (aeq C d) xs ys fields.toList) none
      | some (.array len e) => match sizeT C.P e with
        | some n => aeqItems C.P (aeq C d) e n xs ys (List.range len)
        | none => none
      | _ => none
    | _, _ => none

/-- An operation on two values of a type. -/
def abinAt (C : Cfg U) (op : BinOp) (t : TypeId) (x y : AVal U) : Option (List Prop × AVal U) :=
  match x, y with
  | .agg xs, .agg ys => cond (C.plain t) (match op, aeq C 40 t (.agg xs) (.agg ys) with
    | .eql, some b => some ([], .bool b)
    | .neq, some b => some ([], .bool !b)
    | _, _ => none) none
  | .bool a, .bool b => match op, aeq C 1 t (.bool a) (.bool b) with
    | .eql, some b => some ([], .bool b)
    | .neq, some b => some ([], .bool !b)
    | _, _ => none
  | x, y => abin op x y

def sliceElt (C : Cfg U) (t : TypeId) : Option U.τ :=
  match C.P.underlying t with
  | some (.slice e) => match sizeT C.P e, C.elt e with
    | some n, some τ => cond (Nat.beq n (U.size τ) && Nat.beq e (U.ety τ)) (some τ) none
    | _, _ => none
  | _ => none

/-- What a value is by content, for a callee; and whether it was the frame's own. -/
def byContent (C : Cfg U) (look : Nat → Option (AObj U)) (ty : TypeId) : AVal U → Option (AVal U × Bool)
  | .osl id g => match look id with
    | some (.row t g' xs) => cond (Nat.beq g g') (some (.sl t xs, true)) none
    | _ => none
  | .nils => match sliceElt C ty with
    | some t => some (.sl t [], false)
    | none => none
  | .ptr id off => match look id with
    | some (.cells l) => cond (l.all (·.flat)) (some (.ref l off, true)) none
    | _ => none
  | .agg l => cond (l.all fun c => match c with | .nils => false | c => c.flat) (some (.agg l, false)) none
  | .int k n => some (.int k n, false)
  | .bool b => some (.bool b, false)
  | .str s => some (.str s, false)
  | .sl t xs => some (.sl t xs, false)
  | .ref l off => cond (l.all (·.flat)) (some (.ref l off, false)) none
  | .raw v => some (.raw v, false)
  | _ => none

def argsOf (C : Cfg U) (look : Nat → Option (AObj U)) : List TypeId → List (AVal U) → Option (List (AVal U) × Bool)
  | [], [] => some ([], false)
  | t :: ts, v :: vs => match byContent C look t v, argsOf C look ts vs with
    | some (x, b), some (xs, bs) => some (x :: xs, b || bs)
    | _, _ => none
  | _, _ => none

/-- It holds no address. -/
def AVal.pure : AVal U → Bool
  | .int _ _ | .bool _ | .str _ | .nils | .raw _ => true
  | _ => false
def AVal.bare : AVal U → Bool
  | .agg l => l.all (·.pure)
  | .tup l => l.all fun c => match c with
    | .agg l => l.all (·.pure)
    | c => c.pure
  | v => v.pure

def alen (d : Option TypeDesc) (look : Nat → Option (AObj U)) (x : AVal U) : Option Int :=
  match d, x with
  | some .string, .str s => some s.size
  | some (.slice _), .sl _ xs => some xs.length
  | some (.slice _), .nils => some 0
  | some (.slice _), .osl id g => match look id with
    | some (.row _ g' xs) => cond (Nat.beq g g') (some xs.length) none
    | _ => none
  | some (.array n _), _ => some n
  | _, _ => none

def minI : List (AVal U) → Option (AVal U)
  | [.int k a, .int k' b] => if k = k' then some (.int k (if b < a then b else a)) else none
  | _ => none
def maxI : List (AVal U) → Option (AVal U)
  | [.int k a, .int k' b] => if k = k' then some (.int k (if a < b then b else a)) else none
  | _ => none

/-- A list of elements of one kind as one of another, if they are the same kind. -/
def castRow (t t2 : U.τ) (xs : List (U.T t2)) : Option (List (U.T t)) :=
  match U.deq t2 t with
  | .isTrue h => some (h ▸ xs)
  | .isFalse _ => none

/-- The elements of a slice. -/
def rowOf (look : Nat → Option (AObj U)) (t : U.τ) : AVal U → Option (List (U.T t))
  | .osl id g => match look id with
    | some (.row t2 g' ys) => cond (Nat.beq g g') (castRow t t2 ys) none
    | _ => none
  | .sl t2 ys => castRow t t2 ys
  | .nils => some []
  | _ => none

/-- append(x, y...): the elements of y put behind those of an own slice or of nil. -/
def aappend (C : Cfg U) (look : Nat → Option (AObj U)) (d : Nat) (argTypes : Array TypeId) (x y : AVal U) : Out U :=
  match argTypes.toList with
  | [t, t'] => cond (Nat.beq t t') (match sliceElt C t with
    | some τ => match C.P.info? (U.ety τ) with
      | some i => match i.zero with
        | some z => cond (Nat.beq z.cells.size (U.size τ) && Nat.ble 1 i.bytes) (match rowOf look τ y with
          | some ys => match x with
            | .nils => match look d with
              | none => some ([ys.length * i.bytes ≤ 140737488355328], .osl d 0, some (d, .row τ 0 ys))
              | some _ => none
            | .osl id g => match rowOf look τ (.osl id g) with
              | some xs => some ([(xs.length + ys.length) * i.bytes ≤ 140737488355328], .osl id (g + 1), some (id, .row τ (g + 1) (xs ++ ys)))
              | none => none
            | _ => none
          | none => none) none
        | none => none
      | none => none
    | none => none) none
  | _ => none

/-- The size of the elements of type e, if it is at least one cell. -/
def fieldOff (P : Program) (t : TypeId) (f : Nat) : Option Nat :=
  match P.underlying t with
  | some (.struct fields) => match fields[f]? with
    | some fl => match sizeT P fl.type with
      | some (_ + 1) => some fl.offset
      | _ => none
    | none => none
  | _ => none

def fieldPlaces (P : Program) : List Field → Option (List (Nat × Nat))
  | [] => some []
  | f :: fs => match sizeT P f.type, fieldPlaces P fs with
    | some n, some r => some ((f.offset, n) :: r)
    | _, _ => none

def placesOf (P : Program) (t : TypeId) : Option (Nat → Option (Nat × Nat)) :=
  match P.underlying t with
  | some (.struct fields) => match fieldPlaces P fields.toList with
    | some r => some fun i => r[i]?
    | none => none
  | some (.array _ e) => match sizeT P e with
    | some n => some fun i => some (i * n, n)
    | none => none
  | _ => none

def indexAddrOf (C : Cfg U) (look : Nat → Option (AObj U)) (t : TypeId) (x : AVal U) (i : Int) : Out U :=
  match C.P.underlying t with
  | some (.slice e) => match x with
    | .sl τ xs => cond (match sizeT C.P e with | some n => Nat.beq n (U.size τ) | none => false)
        (some ([0 ≤ i ∧ i < xs.length], .ref (C.E.enc τ (xs.getD i.toNat (C.E.dflt τ))) 0, none)) none
    | .osl id g => match look id with
      | some (.row τ g' xs) => cond (Nat.beq g g' && (match sizeT C.P e with | some n => Nat.beq n (U.size τ) | none => false))
          (some ([0 ≤ i ∧ i < xs.length], .eptr id g i.toNat 0 (U.size τ), none)) none
      | _ => none
    | .nils => some ([False], .any, none)
    | _ => none
  | some (.array len e) => match sizeT C.P e with
    | some n => match x with
      | .ptr id off => some ([0 ≤ i ∧ i < len], .ptr id (off + i.toNat * n), none)
      | .ref l off => some ([0 ≤ i ∧ i < len], .ref l (off + i.toNat * n), none)
      | _ => none
    | none => none
  | _ => none

def indexOf (C : Cfg U) (t : TypeId) (x : AVal U) (i : Int) : Out U :=
  match C.P.underlying t, x with
  | some .string, .str s => some ([0 ≤ i ∧ i < s.size], .int .u8 (s.data.toList.getD i.toNat 0).toNat, none)
  | some (.array len e), .agg l => match sizeT C.P e with
    | some n => match partOf C.P e l (i.toNat * n) with
      | some v => some ([0 ≤ i ∧ i < len], v, none)
      | none => none
    | none => none
  | _, _ => none

def intOf? : Option (AVal U) → Option Int
  | none => none
  | some (.int _ n) => some n
  | _ => none

def sliceOf (C : Cfg U) (t : TypeId) (x : AVal U) (lo hi : Option (AVal U)) : Out U :=
  match C.P.underlying t, x with
  | some .string, .str s => match lo, hi with
    | some (.int _ l), some (.int _ h) => some ([0 ≤ l ∧ l ≤ h ∧ h ≤ s.size], .str (s.extract l.toNat h.toNat), none)
    | some (.int _ l), none => some ([0 ≤ l ∧ l ≤ s.size], .str (s.extract l.toNat s.size), none)
    | none, some (.int _ h) => some ([0 ≤ h ∧ h ≤ s.size], .str (s.extract 0 h.toNat), none)
    | none, none => some ([], .str (s.extract 0 s.size), none)
    | _, _ => none
  | some (.slice e), .sl τ xs => cond (match sizeT C.P e with | some n => Nat.beq n (U.size τ) | none => false) (match lo, hi with
    | some (.int _ l), some (.int _ h) => some ([0 ≤ l ∧ l ≤ h ∧ h ≤ xs.length], .sl τ ((xs.drop l.toNat).take (h.toNat - l.toNat)), none)
    | some (.int _ l), none => some ([0 ≤ l ∧ l ≤ xs.length], .sl τ (xs.drop l.toNat), none)
    | none, some (.int _ h) => some ([0 ≤ h ∧ h ≤ xs.length], .sl τ (xs.take h.toNat), none)
    | none, none => some ([], .sl τ xs, none)
    | _, _ => none) none
  | _, _ => none

/-- The call of a function with a summary. -/
def callOf (C : Cfg U) (look : Nat → Option (AObj U)) (f : FuncId) (argTypes : List TypeId) (vs : List (AVal U)) : Out U :=
  match C.sum f with
  | some m => match argsOf C look argTypes vs with
    | some (xs, own) => match m xs with
      | some (cs, r) => cond (!own || r.bare) (some (cs, r, none)) none
      | none => none
    | none => none
  | none => none

/-- A pointer moved on by some cells. -/
def moveOn (look : Nat → Option (AObj U)) (fo : Nat) : AVal U → Out U
  | .ptr id off => val (.ptr id (off + fo))
  | .eptr id g i off sz => cond (storable look (.eptr id g i off sz)) (val (.eptr id g i (off + fo) sz)) none
  | .ref l off => val (.ref l (off + fo))
  | _ => none

/-- The abstract operation: from its operands' values and the blocks. -/
def aop (C : Cfg U) (o : Oper) (ev : Operand → AVal U) (look : Nat → Option (AObj U)) : Out U :=
  match o.op with
  | .move x | .assign x => val (ev x)
  | .pick c a b => match ev c, ev a, ev b with
    | .bool c, .bool x, .bool y => val (.bool (cond c x y))
    | .bool c, x, y => match c with
      | true => val x
      | false => val y
    | _, _, _ => none
  | .alloc t => match o.dst, zeroCells C.P t with
    | some d, some cs => match look d with
      | none => some ([], .ptr d 0, some (d, .cells cs))
      | some _ => none
    | _, _ => none
  | .box t x => match o.dst with
    | some d => match look d with
      | none => cond ((ev x).cellsOf.all (storable look)) (some ([], .ptr d 0, some (d, .cells (ev x).cellsOf))) none
      | some _ => none
    | none => none
  | .build t parts => match placesOf C.P t, zeroCells C.P t with
    | some pl, some z => match afill look pl z (parts.toList.map fun p => (p.1, ev p.2)) with
      | some l => val (.agg l)
      | none => none
    | _, _ => none
  | .buildSlice t len parts => match o.dst, sliceElt C t with
    | some d, some τ => match look d, zeroCells C.P (U.ety τ) with
      | none, some z => cond (Nat.beq z.length (U.size τ) && Nat.ble (len * U.size τ) 16777216)
          (match afill look (fun i => some (i * U.size τ, U.size τ)) ((List.replicate len z).flatten) (parts.toList.map fun p => (p.1, ev p.2)) with
            | some l => match decRows C.E τ len l with
              | some xs => some ([], .osl d 0, some (d, .row τ 0 xs))
              | none => none
            | none => none) none
      | _, _ => none
    | _, _ => none
  | .load t a => match behind C.E look (ev a) with
    | some (l, off) => val? (partOf C.P t l off)
    | none => none
  | .store t a x => match sizeT C.P t with
    | some n => cond (Nat.beq (ev x).cellsOf.length n) (match storeAt C.E look (ev a) (ev x).cellsOf with
      | some ob => some ([], .raw undef, some ob)
      | none => none) none
    | none => none
  | .binOp op t x y _ => match abinAt C op t (ev x) (ev y) with
    | some (cs, v) => some (cs, v, none)
    | none => none
  | .unOp op _ x => val? (aun op (ev x))
  | .fieldAddr t x f => match fieldOff C.P t f with
    | some fo => moveOn look fo (ev x)
    | none => none
  | .field t x f => match C.P.underlying t with
    | some (.struct fields) => match fields[f]?, ev x with
      | some fl, .agg l => val? (partOf C.P fl.type l fl.offset)
      | _, _ => none
    | _ => none
  | .indexAddr t x ix => match ev ix with
    | .int _ i => indexAddrOf C look t (ev x) i
    | _ => none
  | .index t x ix => match ev ix with
    | .int _ i => indexOf C t (ev x) i
    | _ => none
  | .slice t x lo hi none => match lo, hi with
    | some lo, some hi => sliceOf C t (ev x) (some (ev lo)) (some (ev hi))
    | some lo, none => sliceOf C t (ev x) (some (ev lo)) none
    | none, some hi => sliceOf C t (ev x) none (some (ev hi))
    | none, none => sliceOf C t (ev x) none none
  | .extract t i => match ev t with
    | .tup l => val? (l[i]?)
    | _ => none
  | .call c => match c.callee with
    | .builtin .len => match c.args.toList, c.argTypes.toList with
      | [x], [t] => match alen (C.P.underlying t) look (ev x) with
        | some n => val (.int .i64 n)
        | none => none
      | _, _ => none
    | .builtin .min => val? (minI (c.args.toList.map ev))
    | .builtin .max => val? (maxI (c.args.toList.map ev))
    | .builtin .append => match o.dst, c.args.toList with
      | some d, [x, y] => aappend C look d c.argTypes (ev x) (ev y)
      | _, _ => none
    | .value (.func f) => callOf C look f c.argTypes.toList (c.args.toList.map ev)
    | _ => none
  | _ => none
end
end Go.Vm
