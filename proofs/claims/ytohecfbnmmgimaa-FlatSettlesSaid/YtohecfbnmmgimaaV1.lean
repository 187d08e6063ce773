/-
  An interpreter of the model's code over abstract values, and that it is right: part 1. Conditions: none; lemmas over any program.
-/
import Derived.WalkKit
import Derived.Orders
import Derived.Below
namespace Go.Vm
open Go.RowKit
set_option linter.unusedVariables false

/-- The kinds of slice elements: their data, their type's number, their cells. -/
structure Univ where
  τ : Type
  deq : DecidableEq τ
  T : τ → Type
  ety : τ → TypeId
  size : τ → Nat

/-- Abstract values. -/
inductive AVal (U : Univ) : Type where
  | any
  | raw (v : Value)
  | int (k : IntKind) (n : Int)
  | bool (b : Bool)
  | str (s : ByteArray)
  | nils
  | ptr (id off : Nat)
  | eptr (id g i off sz : Nat)
  | ref (l : List (AVal U)) (off : Nat)
  | sl (t : U.τ) (xs : List (U.T t))
  | osl (id g : Nat)
  | agg (l : List (AVal U))
  | tup (l : List (AVal U))
  | fn (f : FuncId) (caps : List (AVal U))
  | new (t : U.τ) (xs : List (U.T t))

/-- An own block: a variable's cells, or the row of an own slice (with the number of its last change of length). -/
inductive AObj (U : Univ) : Type where
  | cells (l : List (AVal U))
  | row (t : U.τ) (g : Nat) (xs : List (U.T t))

/-- May it be one cell of memory? -/
def AVal.isCell {U : Univ} : AVal U → Bool
  | .int _ _ | .bool _ | .str _ | .nils | .ptr _ _ | .eptr _ _ _ _ _ | .ref _ _ | .sl _ _ | .fn _ _ => true
  | .raw v => v.oneCell'
  | .osl _ _ => true
  | _ => false

/-- It holds nothing of the frame's own. -/
def AVal.flat {U : Univ} : AVal U → Bool
  | .int _ _ | .bool _ | .str _ | .nils | .raw _ | .sl _ _ => true
  | _ => false

/-- It holds no address. -/
def AVal.pure {U : Univ} : AVal U → Bool
  | .int _ _ | .bool _ | .str _ | .nils | .raw _ => true
  | _ => false

/-- How an element reads as cells, and back. 'plain': the kinds without addresses. -/
structure Enc (U : Univ) where
  enc : (t : U.τ) → U.T t → List (AVal U)
  dec : (t : U.τ) → List (AVal U) → Option (U.T t)
  dflt : (t : U.τ) → U.T t
  enc_len : ∀ t x, (enc t x).length = U.size t
  enc_flat : ∀ t x, ∀ c ∈ enc t x, c.flat = true ∧ c.isCell = true
  dec_len : ∀ t l x, dec t l = some x → l.length = U.size t
  dec_enc : ∀ t l x, dec t l = some x → ∀ k, k < U.size t → (l.getD k .any = (enc t x).getD k .any ∨ (l.getD k .any = .nils ∧ ∃ t', (enc t x).getD k .any = .sl t' []))
  pos : ∀ t, 0 < U.size t
  plain : U.τ → Bool
  plain_ok : ∀ t x, plain t = true → ∀ c ∈ enc t x, c.pure = true

def blk : Value → Option Nat
  | .pointer (some a) => some a.block
  | .slice (some a) _ _ => some a.block
  | _ => none

section
variable {U : Univ} (E : Enc U)

/-- What abstract value a value is of, in a world: ρ has the values of the own blocks, st the blocks that are not written. -/
inductive Rel (w : World) (ρ : Nat → Option (Nat × Value)) (st : Nat → Prop) : AVal U → Value → Prop where
  | any (v : Value) : Rel w ρ st .any v
  | raw (v : Value) : Rel w ρ st (.raw v) v
  | int (k : IntKind) (n : Int) : Rel w ρ st (.int k n) (.int k n)
  | bool (b : Bool) : Rel w ρ st (.bool b) (.bool b)
  | str (s : ByteArray) : Rel w ρ st (.str s) (.string s)
  | nils : Rel w ρ st .nils (.slice none 0 0)
  | ptr (id off b : Nat) (h : ρ id = some (0, .pointer (some ⟨b, 0, none⟩))) : Rel w ρ st (.ptr id off) (.pointer (some ⟨b, off, none⟩))
  | eptr (id g i off sz b n cap : Nat) (h : ρ id = some (g, .slice (some ⟨b, 0, none⟩) n cap)) (hi : i < n) :
      Rel w ρ st (.eptr id g i off sz) (.pointer (some ⟨b, i * sz + off, none⟩))
  | eptrOld (id g i off sz g' : Nat) (u v : Value) (h : ρ id = some (g', u)) (hg : g < g') : Rel w ρ st (.eptr id g i off sz) v
  | osl (id g : Nat) (u : Value) (h : ρ id = some (g, u)) (hp : ∀ a, u ≠ .pointer a) : Rel w ρ st (.osl id g) u
  | oslOld (id g g' : Nat) (u v : Value) (h : ρ id = some (g', u)) (hg : g < g') : Rel w ρ st (.osl id g) v
  | ref (l : List (AVal U)) (off b o : Nat) (f : Nat → Value) (hb : st b) (hc : ∀ k, k < l.length → w.cell? ⟨b, o + k, none⟩ = some (f k))
      (hl : ∀ k (h : k < l.length), Rel w ρ st l[k] (f k)) : Rel w ρ st (.ref l off) (.pointer (some ⟨b, o + off, none⟩))
  | sl0 (t : U.τ) : Rel w ρ st (.sl t []) (.slice none 0 0)
  | sl (t : U.τ) (xs : List (U.T t)) (b o cap : Nat) (f : Nat → Value) (hb : st b) (hcap : xs.length ≤ cap)
      (hc : ∀ k, k < xs.length * U.size t → w.cell? ⟨b, o + k, none⟩ = some (f k))
      (hl : ∀ i (h : i < xs.length) k (hk : k < (E.enc t xs[i]).length), Rel w ρ st (E.enc t xs[i])[k] (f (i * U.size t + k))) :
      Rel w ρ st (.sl t xs) (.slice (some ⟨b, o, none⟩) xs.length cap)
  | agg (l : List (AVal U)) (vs : Array Value) (hn : vs.size = l.length) (hl : ∀ k (h : k < l.length), Rel w ρ st l[k] (vs.getD k undef)) : Rel w ρ st (.agg l) (.agg vs)
  | tup (l : List (AVal U)) (vs : Array Value) (hn : vs.size = l.length) (hl : ∀ k (h : k < l.length), Rel w ρ st l[k] (vs.getD k undef)) : Rel w ρ st (.tup l) (.tuple vs)
  | fn (f : FuncId) (caps : List (AVal U)) (vs : Array Value) (hn : vs.size = caps.length) (hl : ∀ k (h : k < caps.length), Rel w ρ st caps[k] (vs.getD k undef)) :
      Rel w ρ st (.fn f caps) (.func (.func f) #[] vs)

variable {E}

/-- Values stay of their abstract values while the blocks that are not written stay, and own slices change only with their number. -/
theorem Rel.mono {w w' : World} {ρ ρ' : Nat → Option (Nat × Value)} {st st' : Nat → Prop}
    (hst : ∀ b, st b → st' b ∧ w'.heap[b]? = w.heap[b]?)
    (hρ : ∀ id g u, ρ id = some (g, u) → ρ' id = some (g, u) ∨ ((∀ a, u ≠ .pointer a) ∧ ∃ g' u', ρ' id = some (g', u') ∧ g < g'))
    {x : AVal U} {v : Value} (h : Rel E w ρ st x v) : Rel E w' ρ' st' x v := by
  induction h with
  | any v => exact .any v
  | raw v => exact .raw v
  | int k n => exact .int k n
  | bool b => exact .bool b
  | str s => exact .str s
  | nils => exact .nils
  | ptr id off b h =>
    rcases hρ _ _ _ h with h' | ⟨hp, _⟩
    · exact .ptr id off b h'
    · exact absurd rfl (hp _)
  | eptr id g i off sz b n cap h hi =>
    rcases hρ _ _ _ h with h' | ⟨_, g', u', h', hg⟩
    · exact .eptr id g i off sz b n cap h' hi
    · exact .eptrOld id g i off sz g' u' _ h' hg
  | eptrOld id g i off sz g' u v h hg =>
    rcases hρ _ _ _ h with h' | ⟨_, g'', u', h', hg'⟩
    · exact .eptrOld id g i off sz g' u _ h' hg
    · exact .eptrOld id g i off sz g'' u' _ h' (by omega)
  | osl id g u h hp =>
    rcases hρ _ _ _ h with h' | ⟨_, g', u', h', hg⟩
    · exact .osl id g u h' hp
    · exact .oslOld id g g' u' _ h' hg
  | oslOld id g g' u v h hg =>
    rcases hρ _ _ _ h with h' | ⟨_, g'', u', h', hg'⟩
    · exact .oslOld id g g' u _ h' hg
    · exact .oslOld id g g'' u' _ h' (by omega)
  | ref l off b o f hb hc hl ih =>
    exact .ref l off b o f (hst b hb).1 (fun k hk => (World.cell?_of_block (hst b hb).2).trans (hc k hk)) ih
  | sl0 t => exact .sl0 t
  | sl t xs b o cap f hb hcap hc hl ih =>
    exact .sl t xs b o cap f (hst b hb).1 hcap (fun k hk => (World.cell?_of_block (hst b hb).2).trans (hc k hk)) ih
  | agg l vs hn hl ih => exact .agg l vs hn ih
  | tup l vs hn hl ih => exact .tup l vs hn ih
  | fn f caps vs hn hl ih => exact .fn f caps vs hn ih

/-- What holds nothing of the frame's own is of its abstract value whatever the own blocks are. -/
theorem Rel.flat {w : World} {ρ ρ' : Nat → Option (Nat × Value)} {st : Nat → Prop} {x : AVal U} {v : Value} (hx : x.flat = true) (h : Rel E w ρ st x v) : Rel E w ρ' st x v := by
  induction h with
  | any v => exact .any v
  | raw v => exact .raw v
  | int k n => exact .int k n
  | bool b => exact .bool b
  | str s => exact .str s
  | nils => exact .nils
  | sl0 t => exact .sl0 t
  | sl t xs b o cap f hb hcap hc hl ih =>
    exact .sl t xs b o cap f hb hcap hc (fun i h k hk => ih i h k hk (E.enc_flat t _ _ (List.getElem_mem hk)).1)
  | _ => simp [AVal.flat] at hx

theorem Rel.oneCell {w : World} {ρ : Nat → Option (Nat × Value)} {st : Nat → Prop} {x : AVal U} {v : Value} (h : Rel E w ρ st x v) (hx : x.isCell = true)
    (hρ : ∀ id g u, ρ id = some (g, u) → u.oneCell' = true) (hold : ∀ id g, x = .osl id g → ∃ u, ρ id = some (g, u)) (hold' : ∀ id g i off sz, x = .eptr id g i off sz → ∃ u, ρ id = some (g, u)) : v.oneCell' = true := by
  cases h with
  | raw v => exact hx
  | osl id g u h hp => exact hρ _ _ _ h
  | oslOld id g g' u v h hg =>
    obtain ⟨u', hu'⟩ := hold _ _ rfl
    rw [h] at hu'
    simp only [Option.some.injEq, Prod.mk.injEq] at hu'
    omega
  | eptrOld id g i off sz g' u v h hg =>
    obtain ⟨u', hu'⟩ := hold' _ _ _ _ _ rfl
    rw [h] at hu'
    simp only [Option.some.injEq, Prod.mk.injEq] at hu'
    omega
  | any | agg | tup => simp [AVal.isCell] at hx
  | _ => rfl
end
end Go.Vm

namespace Go.Vm
open Go.RowKit
set_option linter.unusedVariables false

/-- The abstract state of a frame. -/
structure ASt (U : Univ) where
  tmps : Nat → AVal U
  objs : Nat → Option (AObj U)

section
variable {U : Univ}
def ASt.set (s : ASt U) (d : Nat) (v : AVal U) : ASt U := ⟨fun t => cond (Nat.beq t d) v (s.tmps t), s.objs⟩
def ASt.obj (s : ASt U) (id : Nat) (o : AObj U) : ASt U := ⟨s.tmps, fun i => cond (Nat.beq i id) (some o) (s.objs i)⟩
def ASt.put (s : ASt U) : Option Tmp → AVal U → ASt U
  | some d, v => s.set d v
  | none, _ => s
def ASt.putObj (s : ASt U) : Option (Nat × AObj U) → ASt U
  | some (id, o) => s.obj id o
  | none => s

def ofConst : Value → AVal U
  | .int k n => .int k n
  | .bool b => .bool b
  | .string s => .str s
  | .slice none 0 0 => .nils
  | v => .raw v

def ASt.eval (s : ASt U) : Operand → AVal U
  | .tmp t => s.tmps t
  | .const v => ofConst v
  | .func f => .fn f []
  | .global _ => .any

def AVal.cellsOf : AVal U → List (AVal U)
  | .agg l => l
  | v => [v]

def isAggT (P : Program) (t : TypeId) : Bool :=
  match P.underlying t with
  | some (.struct _) => true
  | some (.array _ _) => true
  | _ => false

def sizeT (P : Program) (t : TypeId) : Option Nat :=
  match P.info? t with
  | some i => some i.size
  | none => none

/-- A value of type t among cells, from off on. -/
def partOf (P : Program) (t : TypeId) (l : List (AVal U)) (off : Nat) : Option (AVal U) :=
  match P.underlying t, sizeT P t with
  | some _, some n => match isAggT P t with
    | true => cond (Nat.ble (off + n) l.length) (some (.agg ((l.drop off).take n))) none
    | false => l[off]?
  | _, _ => none

/-- The memory behind an address: cells and a place among them. -/
def behind (E : Enc U) (look : Nat → Option (AObj U)) : AVal U → Option (List (AVal U) × Nat)
  | .ptr id off => match look id with
    | some (.cells l) => some (l, off)
    | _ => none
  | .eptr id g i off sz => match look id with
    | some (.row t g' xs) => cond (Nat.beq g g' && Nat.beq sz (U.size t)) (some (E.enc t (xs.getD i (E.dflt t)), off)) none
    | _ => none
  | .ref l off => some (l, off)
  | _ => none

/-- Cells put over others, from off on. -/
def setCells (l : List (AVal U)) (off : Nat) : List (AVal U) → List (AVal U)
  | [] => l
  | c :: cs => setCells (l.set off c) (off + 1) cs

/-- May the cells be stored? -/
def storable (look : Nat → Option (AObj U)) : AVal U → Bool
  | .osl id g => match look id with
    | some (.row _ g' _) => Nat.beq g g'
    | _ => false
  | .eptr id g _ _ _ => match look id with
    | some (.row _ g' _) => Nat.beq g g'
    | _ => false
  | v => v.isCell

def storeAt (E : Enc U) (look : Nat → Option (AObj U)) (p : AVal U) (cs : List (AVal U)) : Option (Nat × AObj U) :=
  cond (cs.all (storable look)) (match p with
    | .ptr id off => match look id with
      | some (.cells l) => cond (Nat.ble (off + cs.length) l.length) (some (id, .cells (setCells l off cs))) none
      | _ => none
    | .eptr id g i off sz => match look id with
      | some (.row t g' xs) => cond (Nat.beq g g' && Nat.beq sz (U.size t) && Nat.ble (off + cs.length) (U.size t))
          (match E.dec t (setCells (E.enc t (xs.getD i (E.dflt t))) off cs) with
            | some x => some (id, .row t g (xs.set i x))
            | none => none) none
      | _ => none
    | _ => none) none

/-- Cells of parts put into zero cells, as 'Instr.fill'. -/
def afill (look : Nat → Option (AObj U)) (place : Nat → Option (Nat × Nat)) (cells : List (AVal U)) : List (Nat × AVal U) → Option (List (AVal U))
  | [] => some cells
  | (i, v) :: rest =>
    match place i with
    | none => none
    | some (off, size) => cond (v.cellsOf.all (storable look) && Nat.beq v.cellsOf.length size && Nat.ble (off + v.cellsOf.length) cells.length)
        (afill look place (setCells cells off v.cellsOf) rest) none

def zeroCells (P : Program) (t : TypeId) : Option (List (AVal U)) :=
  match P.info? t with
  | some i => match i.zero with
    | some z => some (z.cells.toList.map ofConst)
    | none => none
  | none => none

/-- Rows of cells as elements. -/
def decRows (E : Enc U) (t : U.τ) : Nat → List (AVal U) → Option (List (U.T t))
  | 0, _ => some []
  | n + 1, l => match E.dec t (l.take (U.size t)), decRows E t n (l.drop (U.size t)) with
    | some x, some xs => some (x :: xs)
    | _, _ => none

/-- An operation on two numbers or texts. -/
def abin (op : BinOp) : AVal U → AVal U → Option (List Prop × AVal U)
  | .int k a, .int k' b => if k = k' then (match op with
      | .add => some ([], .int k (k.wrap (a + b)))
      | .sub => some ([], .int k (k.wrap (a - b)))
      | .mul => some ([], .int k (k.wrap (a * b)))
      | .quo => some ([b ≠ 0], .int k (k.wrap (a.tdiv b)))
      | .rem => some ([b ≠ 0], .int k (a.tmod b))
      | .eql => some ([], .bool (a == b))
      | .neq => some ([], .bool (a != b))
      | .lss => some ([], .bool (decide (a < b)))
      | .leq => some ([], .bool (decide (a ≤ b)))
      | .gtr => some ([], .bool (decide (b < a)))
      | .geq => some ([], .bool (decide (b ≤ a)))
      | _ => none) else none
  | .str a, .str b => match op with
      | .add => some ([(a.size : Int) + b.size ≤ 9223372036854775807], .str (a ++ b))
      | .eql => some ([], .bool (a == b))
      | .neq => some ([], .bool (a != b))
      | _ => none
  | _, _ => none

def aun (op : UnOp) : AVal U → Option (AVal U)
  | .int k a => match op with
    | .neg => some (.int k (k.wrap (0 - a)))
    | _ => none
  | .bool b => match op with
    | .not => some (.bool (!b))
    | _ => none
  | _ => none

/-- The abstract result of an operation: conditions, the value, a block that changes or is new. -/
abbrev Out (U : Univ) := Option (List Prop × AVal U × Option (Nat × AObj U))

def val (v : AVal U) : Out U := some ([], v, none)
def val? (v : Option (AVal U)) : Out U := match v with
  | some v => some ([], v, none)
  | none => none

/-- The struct types whose values are compared field by field. -/
def PlainAt (P : Program) (t : TypeId) : Prop := P.stoodInHeld t = false ∧ P.eqGuardType P.depth t = false ∧ (P.fieldsOf t).toList.all (fun f => f.name != "_") = true

/-- Programs, their elements, the summaries of their functions, the struct types that are compared, and what holds of every world on the way. -/
structure Cfg (U : Univ) where
  P : Program
  E : Enc U
  elt : TypeId → Option U.τ
  sum : FuncId → Option (List (AVal U) → Option (List Prop × AVal U))
  plain : TypeId → Bool
  plainOK : ∀ t, plain t = true → PlainAt P t
  inv : World → Prop
  invOK : ∀ w w', inv w → Below w.heap.size w w' → inv w'

def aeqFields (P : Program) (eq : TypeId → AVal U → AVal U → Option Bool) (xs ys : List (AVal U)) : List Field → Option Bool
  | [] => some true
  | f :: fs => match partOf P f.type xs f.offset, partOf P f.type ys f.offset with
    | some a, some b => match eq f.type a b, aeqFields P eq xs ys fs with
      | some p, some q => some (p && q)
      | _, _ => none
    | _, _ => none
def aeqItems (P : Program) (eq : TypeId → AVal U → AVal U → Option Bool) (e n : Nat) (xs ys : List (AVal U)) : List Nat → Option Bool
  | [] => some true
  | i :: is => match partOf P e xs (i * n), partOf P e ys (i * n) with
    | some a, some b => match eq e a b, aeqItems P eq e n xs ys is with
      | some p, some q => some (p && q)
      | _, _ => none
    | _, _ => none
/-- Are two values of a type equal? -/
def aeq (C : Cfg U) : Nat → TypeId → AVal U → AVal U → Option Bool
  | 0, _, _, _ => none
  | d + 1, t, x, y => match x, y with
    | .bool a, .bool b => match C.P.underlying t with
      | some .bool => some (a == b)
      | _ => none
    | .int k a, .int k' b => match C.P.underlying t with
      | some (.int _) => if k = k' then some (a == b) else none
      | _ => none
    | .str a, .str b => match C.P.underlying t with
      | some .string => some (a == b)
      | _ => none
    | .agg xs, .agg ys => match C.P.underlying t with
      | some (.struct fields) => cond (C.plain t) (aeqFields C.P (aeq C d) xs ys fields.toList) none
      | some (.array len e) => match sizeT C.P e with
        | some n => aeqItems C.P (aeq C d) e n xs ys (List.range len)
        | none => none
      | _ => none
    | _, _ => none

/-- An operation on two values of a type. -/
def abinAt (C : Cfg U) (op : BinOp) (t : TypeId) (x y : AVal U) : Option (List Prop × AVal U) :=
  match x, y with
  | .agg xs, .agg ys => cond (C.plain t) (match op, aeq C 40 t (.agg xs) (.agg ys) with
    | .eql, some b => some ([], .bool b)
    | .neq, some b => some ([], .bool !b)
    | _, _ => none) none
  | .bool a, .bool b => match op, aeq C 1 t (.bool a) (.bool b) with
    | .eql, some b => some ([], .bool b)
    | .neq, some b => some ([], .bool !b)
    | _, _ => none
  | x, y => abin op x y

def sliceElt (C : Cfg U) (t : TypeId) : Option U.τ :=
  match C.P.underlying t with
  | some (.slice e) => match sizeT C.P e, C.elt e with
    | some n, some τ => cond (Nat.beq n (U.size τ) && Nat.beq e (U.ety τ)) (some τ) none
    | _, _ => none
  | _ => none

/-- What does not change in memory, however deep. -/
def stays : Nat → AVal U → Bool
  | _, .int _ _ | _, .bool _ | _, .str _ | _, .nils | _, .raw _ | _, .sl _ _ => true
  | d + 1, .ref l _ => l.all (stays d)
  | d + 1, .fn _ l => l.all (stays d)
  | _, _ => false

/-- All of a list, and whether one of them was the frame's own. -/
def allC (f : AVal U → Option (AVal U × Bool)) : List (AVal U) → Option (List (AVal U) × Bool)
  | [] => some ([], false)
  | v :: vs => match f v, allC f vs with
    | some (x, b), some (xs, bs) => some (x :: xs, b || bs)
    | _, _ => none

/-- The same with a type for each. -/
def zipC (f : TypeId → AVal U → Option (AVal U × Bool)) : List TypeId → List (AVal U) → Option (List (AVal U) × Bool)
  | [], [] => some ([], false)
  | t :: ts, v :: vs => match f t v, zipC f ts vs with
    | some (x, b), some (xs, bs) => some (x :: xs, b || bs)
    | _, _ => none
  | _, _ => none

/-- The types of the cells of a value of type t. -/
def leafTys (P : Program) : Nat → TypeId → List TypeId
  | 0, t => [t]
  | d + 1, t => match P.underlying t with
    | some (.struct fields) => fields.toList.flatMap fun f => leafTys P d f.type
    | some (.array m e) => (List.replicate m (leafTys P d e)).flatten
    | _ => [t]

/-- What a value is by content, for a callee; and whether it was the frame's own. -/
def byC (C : Cfg U) (look : Nat → Option (AObj U)) : Nat → TypeId → AVal U → Option (AVal U × Bool)
  | 0, _, _ => none
  | d + 1, ty, v => match v with
    | .osl id g => match look id with
      | some (.row t g' xs) => cond (Nat.beq g g') (some (.sl t xs, true)) none
      | _ => none
    | .nils => match sliceElt C ty with
      | some t => some (.sl t [], false)
      | none => none
    | .ptr id off => match look id with
      | some (.cells l) => match allC (byC C look d 0) l with
        | some (ys, _) => some (.ref ys off, true)
        | none => none
      | _ => none
    | .fn f l => match allC (byC C look d 0) l with
      | some (ys, b) => some (.fn f ys, b)
      | none => none
    | .agg l => match l.all fun c => match c with | .nils => false | c => c.flat with
      | true => some (.agg l, false)
      | false => match zipC (byC C look d) (leafTys C.P 20 ty) l with
        | some (ys, b) => some (.agg ys, b)
        | none => none
    | .int k n => some (.int k n, false)
    | .bool b => some (.bool b, false)
    | .str s => some (.str s, false)
    | .sl t xs => some (.sl t xs, false)
    | .ref l off => cond (stays 4 (.ref l off)) (some (.ref l off, false)) none
    | .raw v => some (.raw v, false)
    | _ => none
def byContent (C : Cfg U) (look : Nat → Option (AObj U)) (ty : TypeId) (v : AVal U) : Option (AVal U × Bool) := byC C look 5 ty v

def argsOf (C : Cfg U) (look : Nat → Option (AObj U)) : List TypeId → List (AVal U) → Option (List (AVal U) × Bool)
  | [], [] => some ([], false)
  | t :: ts, v :: vs => match byContent C look t v, argsOf C look ts vs with
    | some (x, b), some (xs, bs) => some (x :: xs, b || bs)
    | _, _ => none
  | _, _ => none

def AVal.bare : AVal U → Bool
  | .agg l => l.all (·.pure)
  | .tup l => l.all fun c => match c with
    | .agg l => l.all (·.pure)
    | c => c.pure
  | v => v.pure

def alen (d : Option TypeDesc) (look : Nat → Option (AObj U)) (x : AVal U) : Option Int :=
  match d, x with
  | some .string, .str s => some s.size
  | some (.slice _), .sl _ xs => some xs.length
  | some (.slice _), .nils => some 0
  | some (.slice _), .osl id g => match look id with
    | some (.row _ g' xs) => cond (Nat.beq g g') (some xs.length) none
    | _ => none
  | some (.array n _), _ => some n
  | _, _ => none

def minI : List (AVal U) → Option (AVal U)
  | [.int k a, .int k' b] => if k = k' then some (.int k (if b < a then b else a)) else none
  | _ => none
def maxI : List (AVal U) → Option (AVal U)
  | [.int k a, .int k' b] => if k = k' then some (.int k (if a < b then b else a)) else none
  | _ => none

/-- A list of elements of one kind as one of another, if they are the same kind. -/
def castRow (t t2 : U.τ) (xs : List (U.T t2)) : Option (List (U.T t)) :=
  match U.deq t2 t with
  | .isTrue h => some (h ▸ xs)
  | .isFalse _ => none

/-- The elements of a slice. -/
def rowOf (look : Nat → Option (AObj U)) (t : U.τ) : AVal U → Option (List (U.T t))
  | .osl id g => match look id with
    | some (.row t2 g' ys) => cond (Nat.beq g g') (castRow t t2 ys) none
    | _ => none
  | .sl t2 ys => castRow t t2 ys
  | .nils => some []
  | _ => none

/-- append(x, y...): the elements of y put behind those of an own slice or of nil. -/
def aappend (C : Cfg U) (look : Nat → Option (AObj U)) (d : Nat) (argTypes : Array TypeId) (x y : AVal U) : Out U :=
  match argTypes.toList with
  | [t, t'] => cond (Nat.beq t t') (match sliceElt C t with
    | some τ => match C.P.info? (U.ety τ) with
      | some i => match i.zero with
        | some z => cond (Nat.beq z.cells.size (U.size τ) && Nat.ble 1 i.bytes) (match rowOf look τ y with
          | some ys => match x with
            | .nils => match look d with
              | none => some ([ys.length * i.bytes ≤ 140737488355328], .osl d 0, some (d, .row τ 0 ys))
              | some _ => none
            | .osl id g => match rowOf look τ (.osl id g) with
              | some xs => some ([(xs.length + ys.length) * i.bytes ≤ 140737488355328], .osl id (g + 1), some (id, .row τ (g + 1) (xs ++ ys)))
              | none => none
            | _ => none
          | none => none) none
        | none => none
      | none => none
    | none => none) none
  | _ => none

/-- The size of the elements of type e, if it is at least one cell. -/
def fieldOff (P : Program) (t : TypeId) (f : Nat) : Option Nat :=
  match P.underlying t with
  | some (.struct fields) => match fields[f]? with
    | some fl => match sizeT P fl.type with
      | some (_ + 1) => some fl.offset
      | _ => none
    | none => none
  | _ => none

def fieldPlaces (P : Program) : List Field → Option (List (Nat × Nat))
  | [] => some []
  | f :: fs => match sizeT P f.type, fieldPlaces P fs with
    | some n, some r => some ((f.offset, n) :: r)
    | _, _ => none

def placesOf (P : Program) (t : TypeId) : Option (Nat → Option (Nat × Nat)) :=
  match P.underlying t with
  | some (.struct fields) => match fieldPlaces P fields.toList with
    | some r => some fun i => r[i]?
    | none => none
  | some (.array _ e) => match sizeT P e with
    | some n => some fun i => some (i * n, n)
    | none => none
  | _ => none

def indexAddrOf (C : Cfg U) (look : Nat → Option (AObj U)) (t : TypeId) (x : AVal U) (i : Int) : Out U :=
  match C.P.underlying t with
  | some (.slice e) => match x with
    | .sl τ xs => cond (match sizeT C.P e with | some n => Nat.beq n (U.size τ) | none => false)
        (some ([0 ≤ i ∧ i < xs.length], .ref (C.E.enc τ (xs.getD i.toNat (C.E.dflt τ))) 0, none)) none
    | .osl id g => match look id with
      | some (.row τ g' xs) => cond (Nat.beq g g' && (match sizeT C.P e with | some n => Nat.beq n (U.size τ) | none => false))
          (some ([0 ≤ i ∧ i < xs.length], .eptr id g i.toNat 0 (U.size τ), none)) none
      | _ => none
    | .nils => some ([False], .any, none)
    | _ => none
  | some (.array len e) => match sizeT C.P e with
    | some n => match x with
      | .ptr id off => some ([0 ≤ i ∧ i < len], .ptr id (off + i.toNat * n), none)
      | .ref l off => some ([0 ≤ i ∧ i < len], .ref l (off + i.toNat * n), none)
      | _ => none
    | none => none
  | _ => none

def indexOf (C : Cfg U) (t : TypeId) (x : AVal U) (i : Int) : Out U :=
  match C.P.underlying t, x with
  | some .string, .str s => some ([0 ≤ i ∧ i < s.size], .int .u8 (s.data.toList.getD i.toNat 0).toNat, none)
  | some (.array len e), .agg l => match sizeT C.P e with
    | some n => match partOf C.P e l (i.toNat * n) with
      | some v => some ([0 ≤ i ∧ i < len], v, none)
      | none => none
    | none => none
  | _, _ => none

def intOf? : Option (AVal U) → Option Int
  | none => none
  | some (.int _ n) => some n
  | _ => none

def sliceOf (C : Cfg U) (t : TypeId) (x : AVal U) (lo hi : Option (AVal U)) : Out U :=
  match C.P.underlying t, x with
  | some .string, .str s => match lo, hi with
    | some (.int _ l), some (.int _ h) => some ([0 ≤ l ∧ l ≤ h ∧ h ≤ s.size], .str (s.extract l.toNat h.toNat), none)
    | some (.int _ l), none => some ([0 ≤ l ∧ l ≤ s.size], .str (s.extract l.toNat s.size), none)
    | none, some (.int _ h) => some ([0 ≤ h ∧ h ≤ s.size], .str (s.extract 0 h.toNat), none)
    | none, none => some ([], .str (s.extract 0 s.size), none)
    | _, _ => none
  | some (.slice e), .sl τ xs => cond (match sizeT C.P e with | some n => Nat.beq n (U.size τ) | none => false) (match lo, hi with
    | some (.int _ l), some (.int _ h) => some ([0 ≤ l ∧ l ≤ h ∧ h ≤ xs.length], .sl τ ((xs.drop l.toNat).take (h.toNat - l.toNat)), none)
    | some (.int _ l), none => some ([0 ≤ l ∧ l ≤ xs.length], .sl τ (xs.drop l.toNat), none)
    | none, some (.int _ h) => some ([0 ≤ h ∧ h ≤ xs.length], .sl τ (xs.take h.toNat), none)
    | none, none => some ([], .sl τ xs, none)
    | _, _ => none) none
  | _, _ => none

/-! ### Results that are new memory -/

/-- A new slice, with its elements. -/
abbrev NewRow (U : Univ) := (t : U.τ) × List (U.T t)
def news1 : AVal U → List (NewRow U)
  | .new t xs => [⟨t, xs⟩]
  | _ => []
def news2 : AVal U → List (NewRow U)
  | .agg l => l.flatMap news1
  | v => news1 v
def AVal.news : AVal U → List (NewRow U)
  | .tup l => l.flatMap news2
  | v => news2 v

/-- A result with its leaves turned; the number says how many new slices come ahead. -/
def lm1 (g : Nat → AVal U → AVal U) : Nat → List (AVal U) → List (AVal U)
  | _, [] => []
  | k, c :: l => g k c :: lm1 g (k + (news1 c).length) l
def lm2 (g : Nat → AVal U → AVal U) (k : Nat) : AVal U → AVal U
  | .agg l => .agg (lm1 g k l)
  | v => g k v
def lm3 (g : Nat → AVal U → AVal U) : Nat → List (AVal U) → List (AVal U)
  | _, [] => []
  | k, c :: l => lm2 g k c :: lm3 g (k + (news2 c).length) l
def leafMap (g : Nat → AVal U → AVal U) : AVal U → AVal U
  | .tup l => .tup (lm3 g 0 l)
  | v => lm2 g 0 v

def down1 : AVal U → AVal U
  | .new t xs => .sl t xs
  | v => v
def own1 (f : Nat → Nat) (k : Nat) : AVal U → AVal U
  | .new _ _ => .osl (f k) 0
  | v => v
/-- The new slices as slices that nobody writes; as own slices. -/
def AVal.down (r : AVal U) : AVal U := leafMap (fun _ => down1) r
def AVal.ownAs (f : Nat → Nat) (r : AVal U) : AVal U := leafMap (own1 f) r

def ok1 : AVal U → Bool
  | .new _ _ => true
  | c => c.flat
def ok2 : AVal U → Bool
  | .agg l => l.all ok1
  | v => ok1 v
/-- Its leaves are numbers, texts, slices. -/
def AVal.okRes : AVal U → Bool
  | .tup l => l.all ok2
  | v => ok2 v
def fr1 (E : Enc U) : AVal U → Bool
  | .new t _ => E.plain t
  | c => c.pure
def fr2 (E : Enc U) : AVal U → Bool
  | .agg l => l.all (fr1 E)
  | v => fr1 E v
/-- All of its memory is new. -/
def AVal.fresh (E : Enc U) : AVal U → Bool
  | .tup l => l.all (fr2 E)
  | v => fr2 E v

/-- The call of a function with a summary: what it asks for, and what it returns. -/
def callRes (C : Cfg U) (look : Nat → Option (AObj U)) (f : FuncId) (argTypes : List TypeId) (vs : List (AVal U)) : Option (List Prop × AVal U) :=
  match C.sum f with
  | some m => match argsOf C look argTypes vs with
    | some (xs, own) => match m xs with
      | some (cs, r) => cond (r.okRes && (!own || r.fresh C.E)) (some (cs, r)) none
      | none => none
    | none => none
  | none => none
/-- .. with at most one new slice, which gets the destination's name. -/
def callOf (C : Cfg U) (look : Nat → Option (AObj U)) (dst : Option Nat) (f : FuncId) (argTypes : List TypeId) (vs : List (AVal U)) : Out U :=
  match callRes C look f argTypes vs with
  | some (cs, r) => match r.news with
    | [] => some (cs, r.ownAs (0 + ·), none)
    | [⟨t, xs⟩] => match dst with
      | some d => match look d with
        | none => some (cs, r.ownAs (d + ·), some (d, .row t 0 xs))
        | some _ => none
      | none => none
    | _ => none
  | none => none
/-- Several new slices, by names of their own. -/
def putRows (s : ASt U) (b : Nat) : List (NewRow U) → ASt U
  | [] => s
  | ⟨t, xs⟩ :: l => putRows (s.obj b (.row t 0 xs)) (b + 1) l
def freeRows (look : Nat → Option (AObj U)) (b : Nat) : Nat → Bool
  | 0 => true
  | m + 1 => (match look (b + m) with
    | none => true
    | some _ => false) && freeRows look b m

/-- A pointer moved on by some cells. -/
def moveOn (look : Nat → Option (AObj U)) (fo : Nat) : AVal U → Out U
  | .ptr id off => val (.ptr id (off + fo))
  | .eptr id g i off sz => cond (storable look (.eptr id g i off sz)) (val (.eptr id g i (off + fo) sz)) none
  | .ref l off => val (.ref l (off + fo))
  | _ => none

/-- The abstract operation: from its operands' values and the blocks. -/
def aop (C : Cfg U) (o : Oper) (ev : Operand → AVal U) (look : Nat → Option (AObj U)) : Out U :=
  match o.op with
  | .move x | .assign x => val (ev x)
  | .pick c a b => match ev c, ev a, ev b with
    | .bool c, .bool x, .bool y => val (.bool (cond c x y))
    | .bool c, x, y => match c with
      | true => val x
      | false => val y
    | _, _, _ => none
  | .alloc t => match o.dst, zeroCells C.P t with
    | some d, some cs => match look d with
      | none => some ([], .ptr d 0, some (d, .cells cs))
      | some _ => none
    | _, _ => none
  | .box t x => match o.dst with
    | some d => match look d with
      | none => cond ((ev x).cellsOf.all (storable look)) (some ([], .ptr d 0, some (d, .cells (ev x).cellsOf))) none
      | some _ => none
    | none => none
  | .build t parts => match placesOf C.P t, zeroCells C.P t with
    | some pl, some z => match afill look pl z (parts.toList.map fun p => (p.1, ev p.2)) with
      | some l => val (.agg l)
      | none => none
    | _, _ => none
  | .buildSlice t len parts => match o.dst, sliceElt C t with
    | some d, some τ => match look d, zeroCells C.P (U.ety τ) with
      | none, some z => cond (Nat.beq z.length (U.size τ) && Nat.ble (len * U.size τ) 16777216)
          (match afill look (fun i => some (i * U.size τ, U.size τ)) ((List.replicate len z).flatten) (parts.toList.map fun p => (p.1, ev p.2)) with
            | some l => match decRows C.E τ len l with
              | some xs => some ([], .osl d 0, some (d, .row τ 0 xs))
              | none => none
            | none => none) none
      | _, _ => none
    | _, _ => none
  | .load t a => match behind C.E look (ev a) with
    | some (l, off) => val? (partOf C.P t l off)
    | none => none
  | .store t a x => match sizeT C.P t with
    | some n => cond (Nat.beq (ev x).cellsOf.length n) (match storeAt C.E look (ev a) (ev x).cellsOf with
      | some ob => some ([], .raw undef, some ob)
      | none => none) none
    | none => none
  | .binOp op t x y _ => match abinAt C op t (ev x) (ev y) with
    | some (cs, v) => some (cs, v, none)
    | none => none
  | .unOp op _ x => val? (aun op (ev x))
  | .fieldAddr t x f => match fieldOff C.P t f with
    | some fo => moveOn look fo (ev x)
    | none => none
  | .field t x f => match C.P.underlying t with
    | some (.struct fields) => match fields[f]?, ev x with
      | some fl, .agg l => val? (partOf C.P fl.type l fl.offset)
      | _, _ => none
    | _ => none
  | .indexAddr t x ix => match ev ix with
    | .int _ i => indexAddrOf C look t (ev x) i
    | _ => none
  | .index t x ix => match ev ix with
    | .int _ i => indexOf C t (ev x) i
    | _ => none
  | .slice t x lo hi none => match lo, hi with
    | some lo, some hi => sliceOf C t (ev x) (some (ev lo)) (some (ev hi))
    | some lo, none => sliceOf C t (ev x) (some (ev lo)) none
    | none, some hi => sliceOf C t (ev x) none (some (ev hi))
    | none, none => sliceOf C t (ev x) none none
  | .extract t i => match ev t with
    | .tup l => val? (l[i]?)
    | _ => none
  | .call c => match c.callee with
    | .builtin .len => match c.args.toList, c.argTypes.toList with
      | [x], [t] => match alen (C.P.underlying t) look (ev x) with
        | some n => val (.int .i64 n)
        | none => none
      | _, _ => none
    | .builtin .min => val? (minI (c.args.toList.map ev))
    | .builtin .max => val? (maxI (c.args.toList.map ev))
    | .builtin .append => match o.dst, c.args.toList with
      | some d, [x, y] => aappend C look d c.argTypes (ev x) (ev y)
      | _, _ => none
    | .value x => match ev x with
      | .fn f caps => callOf C look o.dst f (c.argTypes.toList ++ List.replicate caps.length 0) (c.args.toList.map ev ++ caps)
      | _ => none
    | _ => none
  | .makeFunc fn first captured => match fn with
    | .func f => cond (Nat.beq first.size 0) (val (.fn f (captured.toList.map ev))) none
    | _ => none
  | .nilCheck x => match ev x with
    | .ptr id off => val (.ptr id off)
    | .eptr id g i off sz => cond (storable look (.eptr id g i off sz)) (val (.eptr id g i off sz)) none
    | .ref l off => val (.ref l off)
    | _ => none
  | _ => none
end
end Go.Vm

namespace Go.Vm
open Go.RowKit
set_option linter.unusedVariables false

section
variable {U : Univ}

/-- The blocks that the frame does not write: neither those that it must not name (N) nor its own. -/
def Stab (N : Nat → Prop) (ρ : Nat → Option (Nat × Value)) (w : World) (b : Nat) : Prop :=
  b < w.heap.size ∧ ¬ N b ∧ ∀ id g u, ρ id = some (g, u) → blk u ≠ some b

def RelObj (E : Enc U) (w : World) (ρ : Nat → Option (Nat × Value)) (st : Nat → Prop) (base id : Nat) : AObj U → Prop
  | .cells l => ∃ b c ty, ρ id = some (0, .pointer (some ⟨b, 0, none⟩)) ∧ base ≤ b ∧ w.heap[b]? = some (.cells c ty (0, 0)) ∧ c.size = l.length ∧
      ∀ k (h : k < l.length), Rel E w ρ st l[k] (c.getD k undef)
  | .row t g xs => ∃ u cs, ρ id = some (g, u) ∧ (∀ a, u ≠ .pointer a) ∧ w.ownsRow base (U.ety t) (U.size t) u xs.length cs ∧
      ∀ i (h : i < xs.length) k (hk : k < (E.enc t xs[i]).length), Rel E w ρ st (E.enc t xs[i])[k] (cs.getD (i * U.size t + k) undef)

structure RR (E : Enc U) (n : Nat) (N : Nat → Prop) (w0 : World) (ρ : Nat → Option (Nat × Value)) (s : ASt U) (a : Act) (w : World) : Prop where
  defers : a.defers = []
  size : a.tmps.size = n
  tmps : ∀ t, Rel E w ρ (Stab N ρ w) (s.tmps t) (a.tmps.getD t undef)
  objs : ∀ id ob, s.objs id = some ob → RelObj E w ρ (Stab N ρ w) w0.heap.size id ob
  dom : ∀ id g u, ρ id = some (g, u) → ∃ ob, s.objs id = some ob
  sep : ∀ id id' g g' u u' b, ρ id = some (g, u) → ρ id' = some (g', u') → id ≠ id' → blk u = some b → blk u' ≠ some b
  below : Below w0.heap.size w0 w
  nlt : ∀ b, N b → b < w0.heap.size

/-- The frame and the world are of the abstract state. -/
def R (E : Enc U) (n : Nat) (N : Nat → Prop) (w0 : World) (s : ASt U) (a : Act) (w : World) : Prop := ∃ ρ, RR E n N w0 ρ s a w

variable {E : Enc U} {n : Nat} {N : Nat → Prop} {w0 w w' : World} {ρ ρ' : Nat → Option (Nat × Value)} {s : ASt U} {a : Act}

theorem RelObj.val {st : Nat → Prop} {base id : Nat} {ob : AObj U} (h : RelObj E w ρ st base id ob) : ∃ g u, ρ id = some (g, u) ∧ u.oneCell' = true ∧ ∀ b, blk u = some b → base ≤ b ∧ b < w.heap.size := by
  cases ob with
  | cells l =>
    obtain ⟨b, c, ty, h1, h2, h3, _⟩ := h
    refine ⟨_, _, h1, rfl, fun b' hb' => ?_⟩
    simp only [blk, Option.some.injEq] at hb'
    subst hb'
    exact ⟨h2, (Array.getElem?_eq_some_iff.1 h3).1⟩
  | row t g xs =>
    obtain ⟨u, cs, h1, hp, h2, _⟩ := h
    refine ⟨_, _, h1, ?_, fun b' hb' => ?_⟩
    · rcases h2.2 with ⟨rfl, _⟩ | ⟨_, _, _, rfl, _⟩ <;> rfl
    · refine h2.lt b' ?_
      rcases h2.2 with ⟨rfl, _⟩ | ⟨_, _, _, rfl, _⟩
      · simp [blk] at hb'
      · simpa [blk, Value.ownBlock] using hb'

theorem RR.own (h : RR E n N w0 ρ s a w) {id g : Nat} {u : Value} (hu : ρ id = some (g, u)) : u.oneCell' = true ∧ ∀ b, blk u = some b → w0.heap.size ≤ b ∧ b < w.heap.size := by
  obtain ⟨ob, hob⟩ := h.dom _ _ _ hu
  obtain ⟨g', u', h1, h2, h3⟩ := (h.objs _ _ hob).val
  rw [hu] at h1
  simp only [Option.some.injEq, Prod.mk.injEq] at h1
  obtain ⟨rfl, rfl⟩ := h1
  exact ⟨h2, h3⟩

theorem rel_const {st : Nat → Prop} (v : Value) : Rel E w ρ st (ofConst v) v := by
  unfold ofConst
  split
  · exact .int _ _
  · exact .bool _
  · exact .str _
  · exact .nils
  · exact .raw _

theorem RR.eval (h : RR E n N w0 ρ s a w) (x : Operand) : Rel E w ρ (Stab N ρ w) (s.eval x) (a.eval x) := by
  cases x with
  | tmp t => exact h.tmps t
  | const v => exact rel_const v
  | global g => exact .any _
  | func f => exact .fn f [] #[] rfl (fun k hk => absurd hk (by simp))

theorem nbeq {i d : Nat} (h : ¬ i = d) : Nat.beq i d = false := by
  cases hb : Nat.beq i d
  · rfl
  · exact absurd (Nat.eq_of_beq_eq_true hb) h

theorem getD_set (c : Array Value) (i : Nat) (v : Value) (hi : i < c.size) (k : Nat) : (c.setIfInBounds i v).getD k undef = if k = i then v else c.getD k undef := by
  by_cases hk : k = i
  · subst hk
    simp [hi]
  · rw [if_neg hk]
    simp [Array.getElem?_setIfInBounds_ne (Ne.symm hk)]

theorem RR.put (h : RR E n N w0 ρ s a w) (dst : Option Tmp) (hd : ∀ d, dst = some d → d < n) {x : AVal U} {v : Value} (hv : Rel E w ρ (Stab N ρ w) x v) :
    RR E n N w0 ρ (s.put dst x) (a.put dst v) w := by
  cases dst with
  | none => exact h
  | some d =>
    have hdn := hd d rfl
    refine ⟨h.defers, by simpa [Act.put] using h.size, fun t => ?_, h.objs, h.dom, h.sep, h.below, h.nlt⟩
    show Rel E w ρ _ (cond (Nat.beq t d) x (s.tmps t)) ((a.tmps.setIfInBounds d v).getD t undef)
    rw [getD_set _ _ _ (by rw [h.size]; exact hdn)]
    by_cases ht : t = d
    · subst ht
      simpa using hv
    · rw [if_neg ht]
      have : Nat.beq t d = false := nbeq ht
      rw [this]
      exact h.tmps t

theorem RelObj.mono {st st' : Nat → Prop} {base id : Nat} {ob : AObj U}
    (hst : ∀ b, st b → st' b ∧ w'.heap[b]? = w.heap[b]?)
    (hρ : ∀ id g u, ρ id = some (g, u) → ρ' id = some (g, u) ∨ ((∀ a, u ≠ .pointer a) ∧ ∃ g' u', ρ' id = some (g', u') ∧ g < g'))
    (hsame : ∀ g u, ρ id = some (g, u) → ρ' id = some (g, u)) (hblk : ∀ g u b, ρ id = some (g, u) → blk u = some b → w'.heap[b]? = w.heap[b]?)
    (h : RelObj E w ρ st base id ob) : RelObj E w' ρ' st' base id ob := by
  cases ob with
  | cells l =>
    obtain ⟨b, c, ty, h1, h2, h3, h4, h5⟩ := h
    exact ⟨b, c, ty, hsame _ _ h1, h2, by rw [hblk _ _ b h1 rfl]; exact h3, h4, fun k hk => (h5 k hk).mono hst hρ⟩
  | row t g xs =>
    obtain ⟨u, cs, h1, hp, h2, h3⟩ := h
    refine ⟨u, cs, hsame _ _ h1, hp, ⟨h2.1, ?_⟩, fun i h k hk => (h3 i h k hk).mono hst hρ⟩
    rcases h2.2 with hn | ⟨g', cap, cur, rfl, hb, hg, rest⟩
    · exact .inl hn
    · exact .inr ⟨g', cap, cur, rfl, hb, by rw [hblk _ _ g' h1 rfl]; exact hg, rest⟩

/-- A world that has only grown. -/
theorem RR.ext (h : RR E n N w0 ρ s a w) (hb : Below w.heap.size w w') : RR E n N w0 ρ s a w' := by
  have hst : ∀ b, Stab N ρ w b → Stab N ρ w' b ∧ w'.heap[b]? = w.heap[b]? := fun b ⟨h1, h2, h3⟩ =>
    ⟨⟨Nat.lt_of_lt_of_le h1 hb.size, h2, h3⟩, hb.block b h1⟩
  refine ⟨h.defers, h.size, fun t => (h.tmps t).mono hst (fun _ _ _ hr => .inl hr), fun id ob hob => ?_, h.dom, h.sep, h.below.trans (hb.mono h.below.size), h.nlt⟩
  exact (h.objs id ob hob).mono hst (fun _ _ _ hr => .inl hr) (fun _ _ hr => hr) (fun g u b hr hbl => hb.block b ((h.own hr).2 b hbl).2)

theorem RR.drew (h : RR E n N w0 ρ s a w) : RR E n N w0 ρ s a w.drew :=
  h.ext ⟨rfl, rfl, rfl, Nat.le_refl _, fun _ _ => rfl⟩

def rset (ρ : Nat → Option (Nat × Value)) (id g : Nat) (u : Value) : Nat → Option (Nat × Value) := fun i => if i = id then some (g, u) else ρ i

/-- A block of the frame's own is new, or changes. -/
theorem RR.upd (h : RR E n N w0 ρ s a w) (id g' : Nat) (u' : Value) (ob : AObj U)
    (hold : ∀ g u, ρ id = some (g, u) → (g = g' ∧ u = u') ∨ ((∀ a, u ≠ .pointer a) ∧ g < g'))
    (hw : Below w0.heap.size w w') (hsame : ∀ b, b < w.heap.size → (∀ g u, ρ id = some (g, u) → blk u ≠ some b) → w'.heap[b]? = w.heap[b]?)
    (hnew : ∀ b, blk u' = some b → (∃ g u, ρ id = some (g, u) ∧ blk u = some b) ∨ (w.heap.size ≤ b))
    (hob : RelObj E w' (rset ρ id g' u') (Stab N (rset ρ id g' u') w') w0.heap.size id ob) : RR E n N w0 (rset ρ id g' u') (s.obj id ob) a w' := by
  have hst : ∀ b, Stab N ρ w b → Stab N (rset ρ id g' u') w' b ∧ w'.heap[b]? = w.heap[b]? := fun b ⟨h1, h2, h3⟩ => by
    refine ⟨⟨Nat.lt_of_lt_of_le h1 hw.size, h2, fun i g u hr hbl => ?_⟩, hsame b h1 (fun g u hr => h3 _ _ _ hr)⟩
    unfold rset at hr
    split at hr
    · simp only [Option.some.injEq, Prod.mk.injEq] at hr
      obtain ⟨rfl, rfl⟩ := hr
      rcases hnew b hbl with ⟨g, u, hg, hu⟩ | hge
      · exact h3 _ _ _ hg hu
      · omega
    · exact h3 _ _ _ hr hbl
  have hρ : ∀ i g u, ρ i = some (g, u) → rset ρ id g' u' i = some (g, u) ∨ ((∀ a, u ≠ .pointer a) ∧ ∃ g'' u'', rset ρ id g' u' i = some (g'', u'') ∧ g < g'') := fun i g u hr => by
    unfold rset
    by_cases hi : i = id
    · subst hi
      rw [if_pos rfl]
      rcases hold g u hr with ⟨rfl, rfl⟩ | ⟨hp, hg⟩
      · exact .inl rfl
      · exact .inr ⟨hp, _, _, rfl, hg⟩
    · rw [if_neg hi]
      exact .inl hr
  refine ⟨h.defers, h.size, fun t => (h.tmps t).mono hst hρ, fun i o ho => ?_, fun i g u hr => ?_, ?_, h.below.trans hw, h.nlt⟩
  · by_cases hi : i = id
    · subst hi
      have : (s.obj i ob).objs i = some ob := by simp [ASt.obj]
      rw [this] at ho
      obtain rfl := Option.some.inj ho
      exact hob
    · have : (s.obj id ob).objs i = s.objs i := by
        have : Nat.beq i id = false := nbeq hi
        simp [ASt.obj, this]
      rw [this] at ho
      refine (h.objs i o ho).mono hst hρ (fun g u hr => by unfold rset; rw [if_neg hi]; exact hr) (fun g u b hr hbl => ?_)
      exact hsame b ((h.own hr).2 b hbl).2 (fun g2 u2 hr2 hb2 => h.sep _ _ _ _ _ _ b hr hr2 hi hbl hb2)
  · by_cases hi : i = id
    · subst hi
      exact ⟨ob, by simp [ASt.obj]⟩
    · unfold rset at hr
      rw [if_neg hi] at hr
      obtain ⟨o, ho⟩ := h.dom _ _ _ hr
      have : Nat.beq i id = false := nbeq hi
      exact ⟨o, by simp [ASt.obj, this, ho]⟩
  · intro i j gi gj ui uj b hri hrj hij hbi hbj
    unfold rset at hri hrj
    by_cases hi : i = id
    · rw [if_pos hi] at hri
      rw [if_neg (fun e => hij (hi.trans e.symm))] at hrj
      simp only [Option.some.injEq, Prod.mk.injEq] at hri
      obtain ⟨rfl, rfl⟩ := hri
      rcases hnew b hbi with ⟨g, u, hg, hu⟩ | hge
      · exact h.sep _ _ _ _ _ _ b hg hrj (fun e => hij (hi.trans e)) hu hbj
      · have := ((h.own hrj).2 b hbj).2
        omega
    · rw [if_neg hi] at hri
      by_cases hj : j = id
      · rw [if_pos hj] at hrj
        simp only [Option.some.injEq, Prod.mk.injEq] at hrj
        obtain ⟨rfl, rfl⟩ := hrj
        rcases hnew b hbj with ⟨g, u, hg, hu⟩ | hge
        · exact h.sep _ _ _ _ _ _ b hri hg (fun e => hij (e.trans hj.symm)) hbi hu
        · have := ((h.own hri).2 b hbi).2
          omega
      · rw [if_neg hj] at hrj
        exact h.sep _ _ _ _ _ _ b hri hrj hij hbi hbj

/-- What the lemma above says of the values: they stay of their abstract values. -/
theorem RR.upd_rel (h : RR E n N w0 ρ s a w) (id g' : Nat) (u' : Value)
    (hold : ∀ g u, ρ id = some (g, u) → (g = g' ∧ u = u') ∨ ((∀ a, u ≠ .pointer a) ∧ g < g'))
    (hw : Below w0.heap.size w w') (hsame : ∀ b, b < w.heap.size → (∀ g u, ρ id = some (g, u) → blk u ≠ some b) → w'.heap[b]? = w.heap[b]?)
    (hnew : ∀ b, blk u' = some b → (∃ g u, ρ id = some (g, u) ∧ blk u = some b) ∨ (w.heap.size ≤ b))
    {x : AVal U} {v : Value} (hx : Rel E w ρ (Stab N ρ w) x v) : Rel E w' (rset ρ id g' u') (Stab N (rset ρ id g' u') w') x v := by
  have hst : ∀ b, Stab N ρ w b → Stab N (rset ρ id g' u') w' b ∧ w'.heap[b]? = w.heap[b]? := fun b ⟨h1, h2, h3⟩ => by
    refine ⟨⟨Nat.lt_of_lt_of_le h1 hw.size, h2, fun i g u hr hbl => ?_⟩, hsame b h1 (fun g u hr => h3 _ _ _ hr)⟩
    unfold rset at hr
    split at hr
    · simp only [Option.some.injEq, Prod.mk.injEq] at hr
      obtain ⟨rfl, rfl⟩ := hr
      rcases hnew b hbl with ⟨g, u, hg, hu⟩ | hge
      · exact h3 _ _ _ hg hu
      · omega
    · exact h3 _ _ _ hr hbl
  refine hx.mono hst (fun i g u hr => ?_)
  · unfold rset
    by_cases hi : i = id
    · subst hi
      rw [if_pos rfl]
      rcases hold g u hr with ⟨rfl, rfl⟩ | ⟨hp, hg⟩
      · exact .inl rfl
      · exact .inr ⟨hp, _, _, rfl, hg⟩
    · rw [if_neg hi]
      exact .inl hr
end
end Go.Vm

namespace Go.Vm
open Go.RowKit
set_option linter.unusedVariables false

section
variable {U : Univ} {E : Enc U} {n : Nat} {N : Nat → Prop} {w0 w w' : World} {ρ ρ' : Nat → Option (Nat × Value)} {s : ASt U} {a : Act} {P : Program}

theorem Addr.add_at (b o k : Nat) : (⟨b, o, none⟩ : Addr).add k = ⟨b, o + k, none⟩ := by
  unfold Addr.add
  split
  · simp_all
  · rfl

/-- Cells at an address. -/
def At (E : Enc U) (w : World) (ρ : Nat → Option (Nat × Value)) (st : Nat → Prop) (l : List (AVal U)) (b o : Nat) (f : Nat → Value) : Prop :=
  ∀ k (h : k < l.length), w.cell? ⟨b, o + k, none⟩ = some (f k) ∧ Rel E w ρ st l[k] (f k)

theorem behind_sound (h : RR E n N w0 ρ s a w) {look : Nat → Option (AObj U)} (hlook : ∀ id ob, look id = some ob → s.objs id = some ob)
    {p : AVal U} {v : Value} (hp : Rel E w ρ (Stab N ρ w) p v) {l : List (AVal U)} {off : Nat} (hb : behind E look p = some (l, off)) :
    ∃ b o f, v = .pointer (some ⟨b, o + off, none⟩) ∧ At E w ρ (Stab N ρ w) l b o f := by
  unfold behind at hb
  split at hb
  · split at hb
    · rename_i id off' l' hl'
      simp only [Option.some.injEq, Prod.mk.injEq] at hb
      obtain ⟨rfl, rfl⟩ := hb
      obtain ⟨b, c, ty, h1, h2, h3, h4, h5⟩ := h.objs _ _ (hlook _ _ hl')
      cases hp with
      | ptr _ _ b' hb' =>
        rw [h1] at hb'
        simp only [Option.some.injEq, Prod.mk.injEq, true_and, Value.pointer.injEq, Addr.mk.injEq, and_true] at hb'
        subst hb'
        refine ⟨b, 0, fun k => c.getD k undef, by simp, fun k hk => ⟨?_, h5 k hk⟩⟩
        rw [Nat.zero_add, cell_of_row w b k c ty (0, 0) h3]
        have : k < c.size := by omega
        simp [this]
    · cases hb
  · split at hb
    · rename_i id g i off' sz _ t g' xs hl'
      have hcond : (Nat.beq g g' && Nat.beq sz (U.size t)) = true := by
        cases hc : (Nat.beq g g' && Nat.beq sz (U.size t)) <;> rw [hc] at hb <;> simp_all
      rw [hcond] at hb
      simp only [cond_true, Option.some.injEq, Prod.mk.injEq] at hb
      obtain ⟨rfl, rfl⟩ := hb
      simp only [Bool.and_eq_true] at hcond
      obtain rfl := Nat.eq_of_beq_eq_true hcond.1
      obtain rfl := Nat.eq_of_beq_eq_true hcond.2
      obtain ⟨u, cs, h1, hpp, h2, h3⟩ := h.objs _ _ (hlook _ _ hl')
      cases hp with
      | eptr _ _ _ _ _ b n' cap hr hi =>
        rw [h1] at hr
        simp only [Option.some.injEq, Prod.mk.injEq, true_and] at hr
        subst hr
        rcases h2.2 with ⟨h0, _⟩ | ⟨gb, cap', cur, heq, hbase, hgb, hn, hcm, hcs, htake⟩
        · cases h0
        · simp only [Value.slice.injEq, Option.some.injEq, Addr.mk.injEq, and_true] at heq
          obtain ⟨rfl, rfl, rfl⟩ := heq
          have hxi : xs.getD i (E.dflt t) = xs[i] := by simp [hi]
          rw [hxi]
          refine ⟨b, i * U.size t, fun k => cs.getD (i * U.size t + k) undef, rfl, fun k hk => ?_⟩
          refine ⟨?_, h3 i hi k hk⟩
          have hk' : k < U.size t := by rw [E.enc_len] at hk; exact hk
          have hin : i * U.size t + k < cs.length := by
            rw [h2.1]
            calc i * U.size t + k < i * U.size t + U.size t := by omega
              _ = (i + 1) * U.size t := by rw [Nat.add_mul, Nat.one_mul]
              _ ≤ xs.length * U.size t := Nat.mul_le_mul_right _ hi
          rw [cell_of_row w b _ cur _ (0, 0) hgb]
          have h6 : cs[i * U.size t + k]? = cur[i * U.size t + k]? := by
            rw [← htake, List.getElem?_take, if_pos (by rw [h2.1] at hin; exact hin)]
            simp
          rw [← h6]
          simp [hin]
      | eptrOld _ _ _ _ _ g' u' v hr hg =>
        rw [h1] at hr
        simp only [Option.some.injEq, Prod.mk.injEq] at hr
        omega
    · cases hb
  · simp only [Option.some.injEq, Prod.mk.injEq] at hb
    obtain ⟨rfl, rfl⟩ := hb
    cases hp with
    | ref _ _ b o f hst hc hl => exact ⟨b, o, f, rfl, fun k hk => ⟨hc k hk, hl k hk⟩⟩
  · cases hb

theorem sizeT_spec {t : TypeId} {m : Nat} (h : sizeT P t = some m) : ∃ i, P.info? t = some i ∧ i.size = m := by
  unfold sizeT at h
  split at h
  · rename_i i hi
    exact ⟨i, hi, Option.some.inj h⟩
  · cases h

theorem isAgg_run {t : TypeId} {d : TypeDesc} (h : P.underlying t = some d) : (isAgg t).run P w = .ok (isAggT P t) w := by
  unfold isAgg isAggT
  rw [h]
  simp only [Sem.run_bind, run_underlying h, Result.andThen_ok]
  cases d <;> rfl

/-- A part of cells, loaded. -/
theorem loadVar_sound {t : TypeId} {l : List (AVal U)} {off : Nat} {x : AVal U} {st : Nat → Prop} (hx : partOf P t l off = some x) {b o : Nat} {f : Nat → Value}
    (hat : At E w ρ st l b o f) : ∃ u, (loadVar t ⟨b, o + off, none⟩).run P w = .ok u w ∧ Rel E w ρ st x u := by
  unfold partOf at hx
  split at hx
  · rename_i d m hd hm
    obtain ⟨i, hi, rfl⟩ := sizeT_spec hm
    have hagg := isAgg_run (w := w) hd
    split at hx
    · rename_i hb
      have hc : Nat.ble (off + i.size) l.length = true := by
        cases hc : Nat.ble (off + i.size) l.length <;> rw [hc] at hx <;> simp_all
      rw [hc] at hx
      simp only [cond_true, Option.some.injEq] at hx
      subst hx
      have hle := Nat.le_of_ble_eq_true hc
      refine ⟨.agg ((List.range i.size).map fun k => f (off + k)).toArray, ?_, ?_⟩
      · have := run_loadCells (P := P) w ⟨b, o + off, none⟩ i.size (fun k => f (off + k)) (fun k hk => by
          rw [Addr.add_at, Nat.add_assoc]
          exact (hat (off + k) (by omega)).1)
        simp only [loadVar, Sem.run_bind, hagg, hb, Result.andThen_ok, if_true, sizeOf, typeInfo, run_program, hi, Sem.run_pure, this]
      · refine .agg _ _ (by simp; omega) (fun k hk => ?_)
        have hk' : k < i.size := by simp at hk; omega
        have := (hat (off + k) (by omega)).2
        have e : ((List.range i.size).map fun k => f (off + k)).toArray.getD k undef = f (off + k) := by simp [hk']
        rw [e]
        have e2 : ((l.drop off).take i.size)[k] = l[off + k]'(by omega) := by simp
        rw [e2]
        exact this
    · rename_i hb
      have hlt : off < l.length := (List.getElem?_eq_some_iff.1 hx).1
      obtain hx' := (List.getElem?_eq_some_iff.1 hx).2
      rw [← hx']
      refine ⟨f off, ?_, (hat off hlt).2⟩
      simp only [loadVar, Sem.run_bind, hagg, hb, Result.andThen_ok, Bool.false_eq_true, if_false]
      rw [run_load, (hat off hlt).1]
  · cases hx

/-- A part of an aggregate. -/
theorem part_sound {t : TypeId} {l : List (AVal U)} {off : Nat} {x : AVal U} {st : Nat → Prop} (hx : partOf P t l off = some x) {vs : Array Value} (hn : vs.size = l.length)
    (hl : ∀ k (h : k < l.length), Rel E w ρ st l[k] (vs.getD k undef)) : ∃ u, (part t vs off).run P w = .ok u w ∧ Rel E w ρ st x u := by
  unfold partOf at hx
  split at hx
  · rename_i d m hd hm
    obtain ⟨i, hi, rfl⟩ := sizeT_spec hm
    have hagg := isAgg_run (w := w) hd
    split at hx
    · rename_i hb
      have hc : Nat.ble (off + i.size) l.length = true := by
        cases hc : Nat.ble (off + i.size) l.length <;> rw [hc] at hx <;> simp_all
      rw [hc] at hx
      simp only [cond_true, Option.some.injEq] at hx
      subst hx
      have hle := Nat.le_of_ble_eq_true hc
      refine ⟨.agg (vs.extract off (off + i.size)), ?_, ?_⟩
      · simp only [part, Sem.run_bind, hagg, hb, Result.andThen_ok, if_true, sizeOf, typeInfo, run_program, hi, Sem.run_pure]
      · refine .agg _ _ (by simp; omega) (fun k hk => ?_)
        have hk' : k < i.size := by simp at hk; omega
        have := hl (off + k) (by omega)
        have h2 : k < min (off + i.size) vs.size - off := by omega
        have e : (vs.extract off (off + i.size)).getD k undef = vs.getD (off + k) undef := by
          have h3 : off + k < vs.size := by omega
          simp [h2, h3]
        rw [e]
        have e2 : ((l.drop off).take i.size)[k] = l[off + k]'(by omega) := by simp
        rw [e2]
        exact this
    · rename_i hb
      have hlt : off < l.length := (List.getElem?_eq_some_iff.1 hx).1
      obtain hx' := (List.getElem?_eq_some_iff.1 hx).2
      rw [← hx']
      refine ⟨vs.getD off undef, ?_, hl off hlt⟩
      have h2 : off < vs.size := by omega
      simp only [part, Sem.run_bind, hagg, hb, Result.andThen_ok, Bool.false_eq_true, if_false]
      simp [h2]
  · cases hx

theorem getD_toList (c : Array Value) (k : Nat) (d : Value) : c.toList.getD k d = c.getD k d := by simp

theorem setCells_length (cs : List (AVal U)) : ∀ (l : List (AVal U)) (off : Nat), (setCells l off cs).length = l.length := by
  induction cs with
  | nil => intro l off; rfl
  | cons c cs ih => intro l off; simp [setCells, ih]

/-- Cells stored among cells. -/
theorem setCells_rel {st : Nat → Prop} (cs : List (AVal U)) : ∀ (vs : List Value) (l : List (AVal U)) (off : Nat) (c : List Value), cs.length = vs.length → off + cs.length ≤ l.length → c.length = l.length →
    (∀ k (h : k < cs.length), Rel E w ρ st cs[k] (vs.getD k undef)) → (∀ k (h : k < l.length), Rel E w ρ st l[k] (c.getD k undef)) →
    ∀ k (h : k < (setCells l off cs).length), Rel E w ρ st (setCells l off cs)[k] ((c.take off ++ vs ++ c.drop (off + vs.length)).getD k undef) := by
  induction cs with
  | nil =>
    intro vs l off c hlen hle hcl hcs hl k hk
    have : vs = [] := List.eq_nil_of_length_eq_zero (by simpa using hlen.symm)
    subst this
    simp only [setCells] at hk ⊢
    simpa using hl k hk
  | cons x cs ih =>
    intro vs l off c hlen hle hcl hcs hl k hk
    cases vs with
    | nil => simp at hlen
    | cons v vs =>
      simp only [List.length_cons] at hlen hle
      have := ih vs (l.set off x) (off + 1) (c.set off v) (by omega) (by simp; omega) (by simp [hcl]) (fun k h => hcs (k + 1) (by simp; omega)) (fun k h => by
        by_cases hko : off = k
        · subst hko
          have h0 := hcs 0 (by simp)
          have : off < c.length := by omega
          simpa [this] using h0
        · have := hl k (by simpa using h)
          rw [List.getElem_set_ne hko]
          simpa [List.getElem?_set_ne hko] using this) k (by simpa [setCells] using hk)
      simp only [setCells]
      have e : (c.set off v).take (off + 1) ++ vs ++ (c.set off v).drop (off + 1 + vs.length) = c.take off ++ v :: vs ++ c.drop (off + (v :: vs).length) := by
        have h1 : (c.set off v).take (off + 1) = c.take off ++ [v] := by
          rw [List.take_succ_eq_append_getElem (by simp; omega)]
          simp [List.take_set_of_le]
        have h2 : (c.set off v).drop (off + 1 + vs.length) = c.drop (off + (v :: vs).length) := by
          rw [List.drop_set_of_lt (by omega)]
          simp only [List.length_cons]
          congr 1
          omega
        rw [h1, h2]
        simp
      rw [e] at this
      exact this
end
end Go.Vm

namespace Go.Vm
open Go.RowKit
set_option linter.unusedVariables false

section
variable {U : Univ} {E : Enc U} {n : Nat} {N : Nat → Prop} {w0 w w' : World} {ρ ρ' : Nat → Option (Nat × Value)} {s : ASt U} {a : Act} {P : Program}

theorem rel_dec {st : Nat → Prop} {t : U.τ} {l : List (AVal U)} {x : U.T t} (hd : E.dec t l = some x) {f : Nat → Value} (h : ∀ k (hk : k < l.length), Rel E w ρ st l[k] (f k)) :
    ∀ k (hk : k < (E.enc t x).length), Rel E w ρ st (E.enc t x)[k] (f k) := by
  intro k hk
  have hl := E.dec_len t l x hd
  have hk' : k < U.size t := by rw [E.enc_len] at hk; exact hk
  have h1 := h k (by omega)
  have e1 : l.getD k .any = l[k]'(by omega) := by
    have : k < l.length := by omega
    simp [this]
  have e2 : (E.enc t x).getD k .any = (E.enc t x)[k] := by simp [hk]
  rcases E.dec_enc t l x hd k hk' with h2 | ⟨h2, t', h3⟩
  · rw [e1, e2] at h2
    rw [← h2]
    exact h1
  · rw [e1] at h2
    rw [e2] at h3
    rw [h3]
    rw [h2] at h1
    generalize f k = v at h1
    cases h1
    exact .sl0 t'

theorem splice_get (c vs : List Value) (p off sz k : Nat) (h : p + sz ≤ c.length) (ho : off + vs.length ≤ sz) (hk : k < sz) :
    (((c.drop p).take sz).take off ++ vs ++ ((c.drop p).take sz).drop (off + vs.length))[k]? = (c.take (p + off) ++ vs ++ c.drop (p + off + vs.length))[p + k]? := by
  have l1 : (((c.drop p).take sz).take off).length = off := by simp; omega
  have l2 : (c.take (p + off)).length = p + off := by simp; omega
  simp only [List.append_assoc, List.getElem?_append, l1, l2]
  by_cases h5 : k < off
  · rw [if_pos h5, if_pos (show p + k < p + off by omega)]
    simp only [List.getElem?_take, List.getElem?_drop]
    rw [if_pos h5, if_pos hk, if_pos (show p + k < p + off by omega)]
  · rw [if_neg h5, if_neg (show ¬ p + k < p + off by omega)]
    have e : p + k - (p + off) = k - off := by omega
    rw [e]
    by_cases h6 : k - off < vs.length
    · rw [if_pos h6, if_pos h6]
    · rw [if_neg h6, if_neg h6]
      simp only [List.getElem?_take, List.getElem?_drop]
      rw [if_pos (by omega)]
      congr 1
      omega

theorem storable_sound (h : RR E n N w0 ρ s a w) {look : Nat → Option (AObj U)} (hlook : ∀ id ob, look id = some ob → s.objs id = some ob)
    {x : AVal U} {v : Value} (hx : Rel E w ρ (Stab N ρ w) x v) (hs : storable look x = true) : v.oneCell' = true := by
  unfold storable at hs
  have hcur : ∀ id t g xs, look id = some (.row t g xs) → ∃ u, ρ id = some (g, u) := fun id t g xs hl => by
    obtain ⟨u, _, h1, _⟩ := h.objs _ _ (hlook _ _ hl)
    exact ⟨u, h1⟩
  split at hs
  · split at hs
    · rename_i id g _ t g' xs hl
      obtain rfl := Nat.eq_of_beq_eq_true hs
      exact hx.oneCell rfl (fun _ _ _ hr => (h.own hr).1) (fun id' g1 he => by cases he; exact hcur _ _ _ _ hl) (fun _ _ _ _ _ he => by cases he)
    · cases hs
  · split at hs
    · rename_i id g _ _ _ _ t g' xs hl
      obtain rfl := Nat.eq_of_beq_eq_true hs
      exact hx.oneCell rfl (fun _ _ _ hr => (h.own hr).1) (fun id' g1 he => by cases he) (fun _ _ _ _ _ he => by cases he; exact hcur _ _ _ _ hl)
    · cases hs
  · rename_i h1 h2
    exact hx.oneCell hs (fun _ _ _ hr => (h.own hr).1) (fun id g he => absurd he (h1 id g)) (fun id g i off sz he => absurd he (h2 id g i off sz))

theorem cells_one {v : Value} (h : v.oneCell' = true) : v.cells = #[v] := by
  cases v <;> first | rfl | cases h

theorem cellsOf_sound (h : RR E n N w0 ρ s a w) {look : Nat → Option (AObj U)} (hlook : ∀ id ob, look id = some ob → s.objs id = some ob)
    {x : AVal U} {v : Value} (hx : Rel E w ρ (Stab N ρ w) x v) (hs : x.cellsOf.all (storable look) = true) :
    v.cells.size = x.cellsOf.length ∧ (∀ k (hk : k < x.cellsOf.length), Rel E w ρ (Stab N ρ w) x.cellsOf[k] (v.cells.toList.getD k undef)) ∧ ∀ u ∈ v.cells.toList, u.oneCell' = true := by
  by_cases hag : ∃ l, x = .agg l
  · obtain ⟨l, rfl⟩ := hag
    cases hx with
    | agg _ vs hn hl =>
      refine ⟨hn, fun k hk => ?_, fun u hu => ?_⟩
      · show Rel E w ρ (Stab N ρ w) l[k] (vs.toList.getD k undef)
        rw [getD_toList]
        exact hl k hk
      · obtain ⟨k, hk, rfl⟩ := List.mem_iff_getElem.1 hu
        have hk' : k < l.length := by simpa [Value.cells, hn] using hk
        have hr := hl k hk'
        have hst : storable look l[k] = true := by
          simp only [AVal.cellsOf, List.all_eq_true] at hs
          exact hs _ (List.getElem_mem hk')
        have e : vs.getD k undef = (Value.agg vs).cells.toList[k] := by
          have : k < vs.size := by omega
          simp [Value.cells, this]
        rw [← e]
        exact storable_sound h hlook hr hst
  · have hc : x.cellsOf = [x] := by
      cases x <;> first | rfl | exact absurd ⟨_, rfl⟩ hag
    rw [hc] at hs ⊢
    have hst : storable look x = true := by simpa using hs
    have hone := storable_sound h hlook hx hst
    rw [cells_one hone]
    refine ⟨rfl, fun k hk => ?_, fun u hu => ?_⟩
    · have : k = 0 := by simpa using hk
      subst this
      simpa using hx
    · simp only [List.mem_singleton] at hu
      subst hu
      exact hone

theorem below_setRow {base g : Nat} (hg : base ≤ g) (w : World) (cs : Array Value) : Below base w (w.setRow g cs) :=
  ⟨rfl, rfl, rfl, by simp, fun k hk => setRow_other w g k cs (by omega)⟩

theorem storeAt_sound (h : RR E n N w0 ρ s a w) {look : Nat → Option (AObj U)} (hlook : ∀ id ob, look id = some ob → s.objs id = some ob)
    {p x : AVal U} {v u : Value} (hp : Rel E w ρ (Stab N ρ w) p v) (hx : Rel E w ρ (Stab N ρ w) x u) {id : Nat} {ob : AObj U} (hs : storeAt E look p x.cellsOf = some (id, ob))
    {t : TypeId} {m : Nat} (hm : sizeT P t = some m) (hlen : x.cellsOf.length = m) :
    ∃ w' ρ', (Instr.storeAt t v u).run P w = .ok () w' ∧ RR E n N w0 ρ' (s.obj id ob) a w' := by
  obtain ⟨ti, hti, htis⟩ := sizeT_spec hm
  unfold storeAt at hs
  have hall : x.cellsOf.all (storable look) = true := by
    cases hc : x.cellsOf.all (storable look) <;> rw [hc] at hs <;> simp_all
  rw [hall] at hs
  simp only [cond_true] at hs
  obtain ⟨hsz, hrel, hone⟩ := cellsOf_sound h hlook hx hall
  have hvl : u.cells.toList.length = x.cellsOf.length := by simpa using hsz
  split at hs
  · -- a variable
    rename_i id' off
    split at hs
    · rename_i l hl'
      have hc : Nat.ble (off + x.cellsOf.length) l.length = true := by
        cases hc : Nat.ble (off + x.cellsOf.length) l.length <;> rw [hc] at hs <;> simp_all
      rw [hc] at hs
      simp only [cond_true, Option.some.injEq, Prod.mk.injEq] at hs
      obtain ⟨rfl, rfl⟩ := hs
      have hle := Nat.le_of_ble_eq_true hc
      obtain ⟨b, c, ty, h1, h2, h3, h4, h5⟩ := h.objs _ _ (hlook _ _ hl')
      cases hp with
      | ptr _ _ b' hb' =>
        rw [h1] at hb'
        simp only [Option.some.injEq, Prod.mk.injEq, true_and, Value.pointer.injEq, Addr.mk.injEq, and_true] at hb'
        subst hb'
        have hrun := run_storeCells_at P b off ty u.cells.toList 0 c w h3 (by simp only [Nat.add_zero]; omega) hone
        simp only [Nat.add_zero] at hrun
        refine ⟨w.setRow b (c.toList.take off ++ u.cells.toList ++ c.toList.drop (off + u.cells.toList.length)).toArray, rset ρ id' 0 (.pointer (some ⟨b, 0, none⟩)), ?_, ?_⟩
        · simp only [Instr.storeAt, Instr.sureAddr, storeVar, sizeOf, typeInfo, Sem.run_bind, Sem.run_pure, Result.andThen_ok, run_program, hti]
          have : ¬ (u.cells.size ≠ ti.size) := by simp only [ne_eq, Decidable.not_not]; omega
          simp only [if_neg this]
          exact hrun
        · have hold : ∀ g u', ρ id' = some (g, u') → (g = 0 ∧ u' = .pointer (some ⟨b, 0, none⟩)) ∨ ((∀ a, u' ≠ .pointer a) ∧ g < 0) := fun g u' hr => by
            rw [h1] at hr
            simp only [Option.some.injEq, Prod.mk.injEq] at hr
            exact .inl ⟨hr.1.symm, hr.2.symm⟩
          have hsame : ∀ b', b' < w.heap.size → (∀ g u', ρ id' = some (g, u') → blk u' ≠ some b') → (w.setRow b (c.toList.take off ++ u.cells.toList ++ c.toList.drop (off + u.cells.toList.length)).toArray).heap[b']? = w.heap[b']? := fun b' _ hne =>
            setRow_other w b b' _ (fun e => hne _ _ h1 (by simp [blk, e]))
          have hnew : ∀ b', blk (.pointer (some ⟨b, 0, none⟩)) = some b' → (∃ g u', ρ id' = some (g, u') ∧ blk u' = some b') ∨ (w.heap.size ≤ b') := fun b' hb' => .inl ⟨_, _, h1, hb'⟩
          refine h.upd id' 0 _ _ hold (below_setRow h2 w _) hsame hnew ?_
          refine ⟨b, _, ty, by simp [rset], h2, setRow_heap w b c _ ty (0, 0) h3, ?_, fun k hk => ?_⟩
          · simp only [List.size_toArray, List.length_append, List.length_take, List.length_drop, Array.length_toList, setCells_length]
            omega
          · have hk2 := setCells_rel x.cellsOf u.cells.toList l off c.toList (by omega) hle (by simpa using h4) hrel (fun k hk => by rw [getD_toList]; exact h5 k hk) k hk
            have := h.upd_rel id' 0 _ hold (below_setRow h2 w _) hsame hnew hk2
            simpa using this
    · cases hs
  · -- an element of an own row
    rename_i id' g i off sz
    split at hs
    · rename_i t' g' xs hl'
      have hc : (Nat.beq g g' && Nat.beq sz (U.size t') && Nat.ble (off + x.cellsOf.length) (U.size t')) = true := by
        cases hc : (Nat.beq g g' && Nat.beq sz (U.size t') && Nat.ble (off + x.cellsOf.length) (U.size t')) <;> rw [hc] at hs <;> simp_all
      rw [hc] at hs
      simp only [cond_true] at hs
      simp only [Bool.and_eq_true] at hc
      obtain ⟨⟨hc1, hc2⟩, hc3⟩ := hc
      obtain rfl := Nat.eq_of_beq_eq_true hc1
      obtain rfl := Nat.eq_of_beq_eq_true hc2
      have hle := Nat.le_of_ble_eq_true hc3
      split at hs
      · rename_i y hy
        simp only [Option.some.injEq, Prod.mk.injEq] at hs
        obtain ⟨rfl, rfl⟩ := hs
        obtain ⟨u1, cs, h1, hpp, h2, h3⟩ := h.objs _ _ (hlook _ _ hl')
        cases hp with
        | eptrOld _ _ _ _ _ g' u' v hr hg =>
          rw [h1] at hr
          simp only [Option.some.injEq, Prod.mk.injEq] at hr
          omega
        | eptr _ _ _ _ _ b n' cap hr hi =>
          rw [h1] at hr
          simp only [Option.some.injEq, Prod.mk.injEq, true_and] at hr
          subst hr
          rcases h2.2 with ⟨h0, _⟩ | ⟨gb, cap', cur, heq, hbase, hgb, hn, hcm, hcs, htake⟩
          · cases h0
          simp only [Value.slice.injEq, Option.some.injEq, Addr.mk.injEq, and_true] at heq
          obtain ⟨rfl, rfl, rfl⟩ := heq
          have hxi : xs.getD i (E.dflt t') = xs[i] := by simp [hi]
          rw [hxi] at hy
          have hil : (i + 1) * U.size t' ≤ xs.length * U.size t' := Nat.mul_le_mul_right _ hi
          have hnl : xs.length * U.size t' ≤ cap * U.size t' := Nat.mul_le_mul_right _ hn
          have hi1 : (i + 1) * U.size t' = i * U.size t' + U.size t' := by rw [Nat.add_mul, Nat.one_mul]
          have hrun := run_storeCells_at P b (i * U.size t' + off) (U.ety t') u.cells.toList 0 cur w hgb (by simp only [Nat.add_zero]; omega) hone
          simp only [Nat.add_zero] at hrun
          refine ⟨w.setRow b (cur.toList.take (i * U.size t' + off) ++ u.cells.toList ++ cur.toList.drop (i * U.size t' + off + u.cells.toList.length)).toArray, rset ρ id' g (.slice (some ⟨b, 0, none⟩) xs.length cap), ?_, ?_⟩
          · simp only [Instr.storeAt, Instr.sureAddr, storeVar, sizeOf, typeInfo, Sem.run_bind, Sem.run_pure, Result.andThen_ok, run_program, hti]
            have : ¬ (u.cells.size ≠ ti.size) := by simp only [ne_eq, Decidable.not_not]; omega
            simp only [if_neg this]
            exact hrun
          · have hold : ∀ g1 u', ρ id' = some (g1, u') → (g1 = g ∧ u' = .slice (some ⟨b, 0, none⟩) xs.length cap) ∨ ((∀ a, u' ≠ .pointer a) ∧ g1 < g) := fun g1 u' hr => by
              rw [h1] at hr
              simp only [Option.some.injEq, Prod.mk.injEq] at hr
              exact .inl ⟨hr.1.symm, hr.2.symm⟩
            have hsame : ∀ b', b' < w.heap.size → (∀ g u', ρ id' = some (g, u') → blk u' ≠ some b') → (w.setRow b (cur.toList.take (i * U.size t' + off) ++ u.cells.toList ++ cur.toList.drop (i * U.size t' + off + u.cells.toList.length)).toArray).heap[b']? = w.heap[b']? := fun b' _ hne =>
              setRow_other w b b' _ (fun e => hne _ _ h1 (by simp [blk, e]))
            have hnew : ∀ b', blk (.slice (some ⟨b, 0, none⟩) xs.length cap) = some b' → (∃ g u', ρ id' = some (g, u') ∧ blk u' = some b') ∨ (w.heap.size ≤ b') := fun b' hb' => .inl ⟨_, _, h1, hb'⟩
            have hb := below_setRow hbase w (cur.toList.take (i * U.size t' + off) ++ u.cells.toList ++ cur.toList.drop (i * U.size t' + off + u.cells.toList.length)).toArray
            refine h.upd id' g _ _ hold hb hsame hnew ?_
            have hlen' : (xs.set i y).length = xs.length := by simp
            refine ⟨_, (cur.toList.take (i * U.size t' + off) ++ u.cells.toList ++ cur.toList.drop (i * U.size t' + off + u.cells.toList.length)).take (xs.length * U.size t'), by simp [rset], hpp, ⟨?_, .inr ⟨b, cap, _, by rw [hlen'], hbase, setRow_heap w b cur _ _ (0, 0) hgb, by rw [hlen']; exact hn, hcm, ?_, by rw [hlen']⟩⟩, ?_⟩
            · rw [hlen']
              simp only [List.length_take, List.length_append, List.length_drop, Array.length_toList]
              omega
            · simp only [List.size_toArray, List.length_append, List.length_take, List.length_drop, Array.length_toList]
              omega
            · intro j hj k hk
              rw [hlen'] at hj
              have hk' : k < U.size t' := by rw [E.enc_len] at hk; exact hk
              have hjl : (j + 1) * U.size t' ≤ xs.length * U.size t' := Nat.mul_le_mul_right _ hj
              have hj1 : (j + 1) * U.size t' = j * U.size t' + U.size t' := by rw [Nat.add_mul, Nat.one_mul]
              have hget : ∀ q, q < xs.length * U.size t' → ((cur.toList.take (i * U.size t' + off) ++ u.cells.toList ++ cur.toList.drop (i * U.size t' + off + u.cells.toList.length)).take (xs.length * U.size t')).getD q undef =
                  (cur.toList.take (i * U.size t' + off) ++ u.cells.toList ++ cur.toList.drop (i * U.size t' + off + u.cells.toList.length)).getD q undef := fun q hq => by
                simp [hq]
              rw [hget _ (by omega)]
              refine h.upd_rel id' g _ hold hb hsame hnew ?_
              have hcur : ∀ q, q < xs.length * U.size t' → cs.getD q undef = cur.toList.getD q undef := fun q hq => by
                rw [← htake]
                simp [hq]
              by_cases hji : j = i
              · subst hji
                have hyj : (xs.set j y)[j]'(by simpa using hj) = y := by simp
                have hcells : ∀ k (hk : k < (setCells (E.enc t' xs[j]) off x.cellsOf).length), Rel E w ρ (Stab N ρ w) (setCells (E.enc t' xs[j]) off x.cellsOf)[k]
                    ((cur.toList.take (j * U.size t' + off) ++ u.cells.toList ++ cur.toList.drop (j * U.size t' + off + u.cells.toList.length)).getD (j * U.size t' + k) undef) := fun k hk => by
                  have hk2 := hk
                  rw [setCells_length, E.enc_len] at hk2
                  have := setCells_rel x.cellsOf u.cells.toList (E.enc t' xs[j]) off ((cur.toList.drop (j * U.size t')).take (U.size t')) (by omega) (by rw [E.enc_len]; exact hle)
                    (by rw [E.enc_len]; simp; omega) hrel (fun k hk => by
                      have hk3 : k < U.size t' := by rw [E.enc_len] at hk; exact hk
                      have := h3 j hi k hk
                      rw [hcur _ (by omega)] at this
                      simpa [List.getElem?_take, hk3, List.getElem?_drop] using this) k hk
                  have e : (((cur.toList.drop (j * U.size t')).take (U.size t')).take off ++ u.cells.toList ++ ((cur.toList.drop (j * U.size t')).take (U.size t')).drop (off + u.cells.toList.length)).getD k undef =
                      (cur.toList.take (j * U.size t' + off) ++ u.cells.toList ++ cur.toList.drop (j * U.size t' + off + u.cells.toList.length)).getD (j * U.size t' + k) undef := by
                    have hcl : cur.toList.length = cap * U.size t' := by simpa using hcs
                    simp only [List.getD_eq_getElem?_getD]
                    rw [splice_get cur.toList u.cells.toList (j * U.size t') off (U.size t') k (by omega) (by omega) hk2]
                  rw [e] at this
                  exact this
                have := rel_dec hy (f := fun k => (cur.toList.take (j * U.size t' + off) ++ u.cells.toList ++ cur.toList.drop (j * U.size t' + off + u.cells.toList.length)).getD (j * U.size t' + k) undef) hcells k (by rw [hyj] at hk; exact hk)
                simp only [hyj]
                exact this
              · have hyj : (xs.set i y)[j]'(by simpa using hj) = xs[j] := by
                  rw [List.getElem_set_ne (Ne.symm hji)]
                have := h3 j hj k (by rw [hyj] at hk; exact hk)
                rw [hcur _ (by omega)] at this
                have e : (cur.toList.take (i * U.size t' + off) ++ u.cells.toList ++ cur.toList.drop (i * U.size t' + off + u.cells.toList.length)).getD (j * U.size t' + k) undef = cur.toList.getD (j * U.size t' + k) undef := by
                  simp only [List.getD_eq_getElem?_getD]
                  congr 1
                  have hcl : cur.toList.length = cap * U.size t' := by simpa using hcs
                  simp only [List.append_assoc, List.getElem?_append, List.length_take, hcl]
                  rcases Nat.lt_or_gt_of_ne hji with hlt | hgt
                  · have : (j + 1) * U.size t' ≤ i * U.size t' := Nat.mul_le_mul_right _ hlt
                    rw [if_pos (by omega)]
                    rw [List.getElem?_take, if_pos (by omega)]
                  · have : (i + 1) * U.size t' ≤ j * U.size t' := Nat.mul_le_mul_right _ hgt
                    rw [if_neg (by omega), if_neg (by omega)]
                    rw [List.getElem?_drop]
                    congr 1
                    omega
                rw [e]
                simp only [hyj]
                exact this
      · cases hs
    · cases hs
  · cases hs
end
end Go.Vm
