/-
  The heads of loops: what is forgotten there, and under which names the own slices go on. Conditions: none.
-/
import Derived.Test.YtohecfbnmmgimaaVmS
namespace Go.Vm
open Go.RowKit
set_option linter.unusedVariables false

inductive Slot where
  | tmp (t : Nat)
  | cell (id off : Nat)

/-- What is kept at a loop's head: temporaries, variables, own slices (where each lies, its name from here on, its kind). -/
structure Canon (U : Univ) where
  keep : List Nat
  cells : List Nat
  own : List (Slot × Nat × U.τ)

section
variable {U : Univ}

def okCell (p : Nat → Bool) : AVal U → Bool
  | .ptr id _ => p id
  | .eptr _ _ _ _ _ => false
  | .osl _ _ => false
  | .any => true
  | c => c.flat

/-- It names only variables of p. -/
def okIds (p : Nat → Bool) : AVal U → Bool
  | .agg l => l.all (okCell p)
  | .tup l => l.all (okCell p)
  | .fn _ l => l.all (okCell p)
  | .ref l _ => l.all (okCell p)
  | c => okCell p c

def slotVal (s : ASt U) : Slot → Option (AVal U)
  | .tmp t => some (s.tmps t)
  | .cell id off => match s.objs id with
    | some (.cells l) => l[off]?
    | _ => none

/-- The name (or none: nil) and the elements of the own slice in a slot. -/
def slotRow (s : ASt U) (sl : Slot) (τ : U.τ) : Option (Option Nat × List (U.T τ)) :=
  match slotVal s sl with
  | some .nils => some (none, [])
  | some (.osl j g) => match s.objs j with
    | some (.row t g' xs) => cond (Nat.beq g g') (match castRow τ t xs with
      | some ys => some (some j, ys)
      | none => none) none
    | _ => none
  | _ => none

def isOwnTmp (own : List (Slot × Nat × U.τ)) (t : Nat) : Option Nat :=
  match own with
  | [] => none
  | (.tmp t', id, _) :: r => cond (Nat.beq t t') (some id) (isOwnTmp r t)
  | _ :: r => isOwnTmp r t

def isOwnCell (own : List (Slot × Nat × U.τ)) (i k : Nat) : Option Nat :=
  match own with
  | [] => none
  | (.cell i' k', id, _) :: r => cond (Nat.beq i i' && Nat.beq k k') (some id) (isOwnCell r i k)
  | _ :: r => isOwnCell r i k

def patch1 (own : List (Slot × Nat × U.τ)) (i k : Nat) (c : AVal U) : AVal U :=
  match isOwnCell own i k with
  | some id => .osl id 0
  | none => c

def patch (own : List (Slot × Nat × U.τ)) (i : Nat) : Nat → List (AVal U) → List (AVal U)
  | _, [] => []
  | k, c :: cs => patch1 own i k c :: patch own i (k + 1) cs

def patchOk (own : List (Slot × Nat × U.τ)) (i : Nat) (p : Nat → Bool) : Nat → List (AVal U) → Bool
  | _, [] => true
  | k, c :: cs => (match isOwnCell own i k with
    | some _ => true
    | none => okCell p c) && patchOk own i p (k + 1) cs

/-- The kept temporaries: each names only kept variables. -/
def keepTmps (s : ASt U) (own : List (Slot × Nat × U.τ)) (p : Nat → Bool) : List Nat → Option (Nat → AVal U)
  | [] => some fun _ => .any
  | t :: ts => match keepTmps s own p ts with
    | some f => match isOwnTmp own t with
      | some id => some fun u => cond (Nat.beq u t) (.osl id 0) (f u)
      | none => cond (okIds p (s.tmps t)) (some fun u => cond (Nat.beq u t) (s.tmps t) (f u)) none
    | none => none

def keepCells (s : ASt U) (own : List (Slot × Nat × U.τ)) (p : Nat → Bool) : List Nat → Option (Nat → Option (AObj U))
  | [] => some fun _ => none
  | i :: is => match keepCells s own p is, s.objs i with
    | some f, some (.cells l) => cond (patchOk own i p 0 l) (some fun u => cond (Nat.beq u i) (some (.cells (patch own i 0 l))) (f u)) none
    | _, _ => none

/-- The own rows under their new names; the old names are all different. -/
def keepRows (s : ASt U) (f : Nat → Option (AObj U)) : List (Slot × Nat × U.τ) → Option ((Nat → Option (AObj U)) × List Nat)
  | [] => some (f, [])
  | (sl, id, τ) :: r => match keepRows s f r, slotRow s sl τ with
    | some (h, js), some (j, xs) => match h id with
      | none => match j with
        | some j => cond (js.any (Nat.beq j)) none (some (fun u => cond (Nat.beq u id) (some (.row τ 0 xs)) (h u), j :: js))
        | none => some (fun u => cond (Nat.beq u id) (some (.row τ 0 xs)) (h u), js)
      | some _ => none
    | _, _ => none

def canon (m : Canon U) (s : ASt U) : Option (ASt U) :=
  match keepTmps s m.own (fun i => m.cells.any (Nat.beq i)) m.keep, keepCells s m.own (fun i => m.cells.any (Nat.beq i)) m.cells with
  | some f, some g => match keepRows s g m.own with
    | some (h, _) => some ⟨f, h⟩
    | none => none
  | _, _ => none
end
end Go.Vm
