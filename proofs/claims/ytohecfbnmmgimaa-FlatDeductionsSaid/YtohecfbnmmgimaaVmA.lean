/-
  The abstract values and states of an interpreter of the model's code, and what it means that a frame and a world are of an abstract state. Conditions: none; definitions and lemmas over any program.
-/
import Derived.WalkKit
import Derived.Orders
namespace Go.Vm
open Go.RowKit
set_option linter.unusedVariables false

/-- The kinds of slice elements: their data, their type's number, their cells. -/
structure Univ where
  τ : Type
  deq : DecidableEq τ
  T : τ → Type
  ety : τ → TypeId
  size : τ → Nat

/-- Abstract values. -/
inductive AVal (U : Univ) : Type where
  | any
  | raw (v : Value)
  | int (k : IntKind) (n : Int)
  | bool (b : Bool)
  | str (s : ByteArray)
  | nils
  | ptr (id off : Nat)
  | eptr (id g i off sz : Nat)
  | ref (l : List (AVal U)) (off : Nat)
  | sl (t : U.τ) (xs : List (U.T t))
  | osl (id g : Nat)
  | agg (l : List (AVal U))
  | tup (l : List (AVal U))
  | fn (f : FuncId) (caps : List (AVal U))

/-- An own block: a variable's cells, or the row of an own slice (with the number of its last change of length). -/
inductive AObj (U : Univ) : Type where
  | cells (l : List (AVal U))
  | row (t : U.τ) (g : Nat) (xs : List (U.T t))

/-- May it be one cell of memory? -/
def AVal.isCell {U : Univ} : AVal U → Bool
  | .int _ _ | .bool _ | .str _ | .nils | .ptr _ _ | .eptr _ _ _ _ _ | .ref _ _ | .sl _ _ | .fn _ _ => true
  | .raw v => v.oneCell'
  | .osl _ _ => true
  | _ => false

/-- It holds nothing of the frame's own. -/
def AVal.flat {U : Univ} : AVal U → Bool
  | .int _ _ | .bool _ | .str _ | .nils | .raw _ | .sl _ _ => true
  | _ => false

/-- How an element reads as cells, and back. -/
structure Enc (U : Univ) where
  enc : (t : U.τ) → U.T t → List (AVal U)
  dec : (t : U.τ) → List (AVal U) → Option (U.T t)
  dflt : (t : U.τ) → U.T t
  enc_len : ∀ t x, (enc t x).length = U.size t
  enc_flat : ∀ t x, ∀ c ∈ enc t x, c.flat = true ∧ c.isCell = true
  dec_len : ∀ t l x, dec t l = some x → l.length = U.size t
  dec_enc : ∀ t l x, dec t l = some x → ∀ k, k < U.size t → (l.getD k .any = (enc t x).getD k .any ∨ (l.getD k .any = .nils ∧ ∃ t', (enc t x).getD k .any = .sl t' []))
  pos : ∀ t, 0 < U.size t

def blk : Value → Option Nat
  | .pointer (some a) => some a.block
  | .slice (some a) _ _ => some a.block
  | _ => none

section
variable {U : Univ} (E : Enc U)

/-- What abstract value a value is of, in a world: ρ has the values of the own blocks, st the blocks that are not written. -/
inductive Rel (w : World) (ρ : Nat → Option (Nat × Value)) (st : Nat → Prop) : AVal U → Value → Prop where
  | any (v : Value) : Rel w ρ st .any v
  | raw (v : Value) : Rel w ρ st (.raw v) v
  | int (k : IntKind) (n : Int) : Rel w ρ st (.int k n) (.int k n)
  | bool (b : Bool) : Rel w ρ st (.bool b) (.bool b)
  | str (s : ByteArray) : Rel w ρ st (.str s) (.string s)
  | nils : Rel w ρ st .nils (.slice none 0 0)
  | ptr (id off b : Nat) (h : ρ id = some (0, .pointer (some ⟨b, 0, none⟩))) : Rel w ρ st (.ptr id off) (.pointer (some ⟨b, off, none⟩))
  | eptr (id g i off sz b n cap : Nat) (h : ρ id = some (g, .slice (some ⟨b, 0, none⟩) n cap)) (hi : i < n) :
      Rel w ρ st (.eptr id g i off sz) (.pointer (some ⟨b, i * sz + off, none⟩))
  | eptrOld (id g i off sz g' : Nat) (u v : Value) (h : ρ id = some (g', u)) (hg : g < g') : Rel w ρ st (.eptr id g i off sz) v
  | osl (id g : Nat) (u : Value) (h : ρ id = some (g, u)) (hp : ∀ a, u ≠ .pointer a) : Rel w ρ st (.osl id g) u
  | oslOld (id g g' : Nat) (u v : Value) (h : ρ id = some (g', u)) (hg : g < g') : Rel w ρ st (.osl id g) v
  | ref (l : List (AVal U)) (off b o : Nat) (f : Nat → Value) (hb : st b) (hc : ∀ k, k < l.length → w.cell? ⟨b, o + k, none⟩ = some (f k))
      (hl : ∀ k (h : k < l.length), Rel w ρ st l[k] (f k)) : Rel w ρ st (.ref l off) (.pointer (some ⟨b, o + off, none⟩))
  | sl0 (t : U.τ) : Rel w ρ st (.sl t []) (.slice none 0 0)
  | sl (t : U.τ) (xs : List (U.T t)) (b o cap : Nat) (f : Nat → Value) (hb : st b) (hcap : xs.length ≤ cap)
      (hc : ∀ k, k < xs.length * U.size t → w.cell? ⟨b, o + k, none⟩ = some (f k))
      (hl : ∀ i (h : i < xs.length) k (hk : k < (E.enc t xs[i]).length), Rel w ρ st (E.enc t xs[i])[k] (f (i * U.size t + k))) :
      Rel w ρ st (.sl t xs) (.slice (some ⟨b, o, none⟩) xs.length cap)
  | agg (l : List (AVal U)) (vs : Array Value) (hn : vs.size = l.length) (hl : ∀ k (h : k < l.length), Rel w ρ st l[k] (vs.getD k undef)) : Rel w ρ st (.agg l) (.agg vs)
  | tup (l : List (AVal U)) (vs : Array Value) (hn : vs.size = l.length) (hl : ∀ k (h : k < l.length), Rel w ρ st l[k] (vs.getD k undef)) : Rel w ρ st (.tup l) (.tuple vs)
  | fn (f : FuncId) (caps : List (AVal U)) (vs : Array Value) (hn : vs.size = caps.length) (hl : ∀ k (h : k < caps.length), Rel w ρ st caps[k] (vs.getD k undef)) :
      Rel w ρ st (.fn f caps) (.func (.func f) #[] vs)

variable {E}

/-- Values stay of their abstract values while the blocks that are not written stay, and own slices change only with their number. -/
theorem Rel.mono {w w' : World} {ρ ρ' : Nat → Option (Nat × Value)} {st st' : Nat → Prop}
    (hst : ∀ b, st b → st' b ∧ w'.heap[b]? = w.heap[b]?)
    (hρ : ∀ id g u, ρ id = some (g, u) → ρ' id = some (g, u) ∨ ((∀ a, u ≠ .pointer a) ∧ ∃ g' u', ρ' id = some (g', u') ∧ g < g'))
    {x : AVal U} {v : Value} (h : Rel E w ρ st x v) : Rel E w' ρ' st' x v := by
  induction h with
  | any v => exact .any v
  | raw v => exact .raw v
  | int k n => exact .int k n
  | bool b => exact .bool b
  | str s => exact .str s
  | nils => exact .nils
  | ptr id off b h =>
    rcases hρ _ _ _ h with h' | ⟨hp, _⟩
    · exact .ptr id off b h'
    · exact absurd rfl (hp _)
  | eptr id g i off sz b n cap h hi =>
    rcases hρ _ _ _ h with h' | ⟨_, g', u', h', hg⟩
    · exact .eptr id g i off sz b n cap h' hi
    · exact .eptrOld id g i off sz g' u' _ h' hg
  | eptrOld id g i off sz g' u v h hg =>
    rcases hρ _ _ _ h with h' | ⟨_, g'', u', h', hg'⟩
    · exact .eptrOld id g i off sz g' u _ h' hg
    · exact .eptrOld id g i off sz g'' u' _ h' (by omega)
  | osl id g u h hp =>
    rcases hρ _ _ _ h with h' | ⟨_, g', u', h', hg⟩
    · exact .osl id g u h' hp
    · exact .oslOld id g g' u' _ h' hg
  | oslOld id g g' u v h hg =>
    rcases hρ _ _ _ h with h' | ⟨_, g'', u', h', hg'⟩
    · exact .oslOld id g g' u _ h' hg
    · exact .oslOld id g g'' u' _ h' (by omega)
  | ref l off b o f hb hc hl ih =>
    exact .ref l off b o f (hst b hb).1 (fun k hk => (World.cell?_of_block (hst b hb).2).trans (hc k hk)) ih
  | sl0 t => exact .sl0 t
  | sl t xs b o cap f hb hcap hc hl ih =>
    exact .sl t xs b o cap f (hst b hb).1 hcap (fun k hk => (World.cell?_of_block (hst b hb).2).trans (hc k hk)) ih
  | agg l vs hn hl ih => exact .agg l vs hn ih
  | tup l vs hn hl ih => exact .tup l vs hn ih
  | fn f caps vs hn hl ih => exact .fn f caps vs hn ih

/-- What holds nothing of the frame's own is of its abstract value whatever the own blocks are. -/
theorem Rel.flat {w : World} {ρ ρ' : Nat → Option (Nat × Value)} {st : Nat → Prop} {x : AVal U} {v : Value} (hx : x.flat = true) (h : Rel E w ρ st x v) : Rel E w ρ' st x v := by
  induction h with
  | any v => exact .any v
  | raw v => exact .raw v
  | int k n => exact .int k n
  | bool b => exact .bool b
  | str s => exact .str s
  | nils => exact .nils
  | sl0 t => exact .sl0 t
  | sl t xs b o cap f hb hcap hc hl ih =>
    exact .sl t xs b o cap f hb hcap hc (fun i h k hk => ih i h k hk (E.enc_flat t _ _ (List.getElem_mem hk)).1)
  | _ => simp [AVal.flat] at hx

theorem Rel.oneCell {w : World} {ρ : Nat → Option (Nat × Value)} {st : Nat → Prop} {x : AVal U} {v : Value} (h : Rel E w ρ st x v) (hx : x.isCell = true)
    (hρ : ∀ id g u, ρ id = some (g, u) → u.oneCell' = true) (hold : ∀ id g, x = .osl id g → ∃ u, ρ id = some (g, u)) (hold' : ∀ id g i off sz, x = .eptr id g i off sz → ∃ u, ρ id = some (g, u)) : v.oneCell' = true := by
  cases h with
  | raw v => exact hx
  | osl id g u h hp => exact hρ _ _ _ h
  | oslOld id g g' u v h hg =>
    obtain ⟨u', hu'⟩ := hold _ _ rfl
    rw [h] at hu'
    simp only [Option.some.injEq, Prod.mk.injEq] at hu'
    omega
  | eptrOld id g i off sz g' u v h hg =>
    obtain ⟨u', hu'⟩ := hold' _ _ _ _ _ rfl
    rw [h] at hu'
    simp only [Option.some.injEq, Prod.mk.injEq] at hu'
    omega
  | any | agg | tup => simp [AVal.isCell] at hx
  | _ => rfl
end
end Go.Vm
