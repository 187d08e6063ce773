/-
  A region in the order of its text: the abstract run, and that it is right. Conditions: the summaries of the called functions are right.
-/
import Derived.Test.YtohecfbnmmgimaaVmM
namespace Go.Vm
open Go.RowKit
set_option linter.unusedVariables false

/-- A list of operations in the order of the text, with what follows. -/
def wpl (P : Program) (ops : Array Oper) (Q : Exit → Act → World → Prop) : List Oper → (Act → World → Prop) → Act → World → Prop
  | [], K, a, w => K a w
  | o :: rest, K, a, w => if Region.wanted o (yielded ops a.tmps) then o.wp P a w (wpl P ops Q rest K) Q else wpl P ops Q rest K (a.put o.dst undef) w

theorem wpl_mono {P : Program} {ops : Array Oper} {Q : Exit → Act → World → Prop} : ∀ (l : List Oper) {K K' : Act → World → Prop} (h : ∀ a w, K a w → K' a w) {a : Act} {w : World}, wpl P ops Q l K a w → wpl P ops Q l K' a w
  | [], _, _, h, _, _, hh => h _ _ hh
  | o :: rest, K, K', h, a, w, hh => by
    unfold wpl at hh ⊢
    split
    · rename_i hw
      rw [if_pos hw] at hh
      exact Oper.wp_mono (fun a w => wpl_mono rest h) hh
    · rename_i hw
      rw [if_neg hw] at hh
      exact wpl_mono rest h hh

theorem wpl_append {P : Program} {ops : Array Oper} {Q : Exit → Act → World → Prop} : ∀ (l m : List Oper) {K : Act → World → Prop} {a : Act} {w : World}, wpl P ops Q l (wpl P ops Q m K) a w → wpl P ops Q (l ++ m) K a w
  | [], m, K, a, w, h => h
  | o :: rest, m, K, a, w, h => by
    unfold wpl at h
    show wpl P ops Q (o :: (rest ++ m)) K a w
    unfold wpl
    split
    · rename_i hw
      rw [if_pos hw] at h
      exact Oper.wp_mono (fun a w h => wpl_append rest m h) h
    · rename_i hw
      rw [if_neg hw] at h
      exact wpl_append rest m h

theorem wpOps_of_wpl {P : Program} {ops : Array Oper} {Q : Exit → Act → World → Prop} {a : Act} {w : World} (h : wpl P ops Q ops.toList (Q .normal) a w) : wpOps P ops Q (List.range ops.size) a w := by
  have key : ∀ (l : List Oper) (k : Nat), (∀ j, l[j]? = ops[k + j]?) → ∀ a w, wpl P ops Q l (Q .normal) a w → wpOps P ops Q (List.range' k l.length) a w := by
    intro l
    induction l with
    | nil => intro k _ a w h; exact h
    | cons o l ih =>
      intro k hk a w h
      have h0 : ops[k]? = some o := by simpa using (hk 0).symm
      simp only [List.length_cons, List.range'_succ, wpOps, h0]
      have ih' := ih (k + 1) (fun j => by have := hk (j + 1); simpa [Nat.add_assoc, Nat.add_comm 1 j] using this)
      unfold wpl at h
      split
      · rename_i hw
        rw [if_pos hw] at h
        exact .inl (Oper.wp_mono (fun a w h => ih' a w h) h)
      · rename_i hw
        rw [if_neg hw] at h
        exact ih' _ _ h
  have := key ops.toList 0 (fun j => by simp) a w h
  rwa [Array.length_toList, ← List.range_eq_range'] at this

section
variable {U : Univ}

def pureOp (o : Oper) : Bool :=
  match o.op with
  | .move _ | .pick _ _ _ | .build _ _ | .load _ _ | .binOp _ _ _ _ _ | .unOp _ _ _ | .fieldAddr _ _ _ | .field _ _ _ | .indexAddr _ _ _ | .index _ _ _ | .extract _ _ | .slice _ _ _ _ _ => true
  | .call c => match c.callee with
    | .builtin .len | .builtin .min | .builtin .max => true
    | .value (.func _) => true
    | _ => false
  | _ => false

def dstAt (ops : Array Oper) (g : Nat) : Option Tmp := (ops[g]?).bind (·.dst)

inductive GS where
  | run
  | skip
  | branch (d : Nat) (b : Bool) (want : Bool)
  | bad

def guardState (ops : Array Oper) (asm : List (Nat × Bool)) (s : ASt U) (o : Oper) : GS :=
  match o.guard with
  | none => .run
  | some (g, want) => match dstAt ops g with
    | none => .bad
    | some d => match s.tmps d with
      | .raw (.tuple vs) => cond (Nat.beq vs.size 0) .skip .bad
      | .bool b => cond (asm.any fun p => Nat.beq p.1 g && (p.2 == want)) (match b == want with
        | true => .run
        | false => .bad) (.branch d b want)
      | _ => .bad

def isPick (d : Nat) (o : Oper) : Bool :=
  match o.op with
  | .pick (.tmp t) _ _ => Nat.beq t d
  | _ => false

def splitPick (d : Nat) : List Oper → Option (List Oper × Oper × List Oper)
  | [] => none
  | o :: r => cond (isPick d o) (some ([], o, r)) (match splitPick d r with
        | some (l, p, r') => some (o :: l, p, r')
        | none => none)

def skipOk (ops : Array Oper) (d : Nat) (want : Bool) : List Nat → List Oper → Bool
  | _, [] => true
  | sk, o :: r => match o.guard, o.dst with
    | some (g, w'), some t => match dstAt ops g with
      | some dg => ((Nat.beq dg d && (w' == want)) || sk.any (Nat.beq dg)) && !Nat.beq t d && skipOk ops d want (t :: sk) r
      | none => false
    | _, _ => false

def clearAll (s : ASt U) : List Oper → ASt U
  | [] => s
  | o :: r => clearAll (s.put o.dst .any) r

def guarded (p : Prop) : List Prop → List Prop
  | [] => []
  | cs => [p → conj cs]

def mergeVal (b want : Bool) (x y : Operand) (va vb : AVal U) : Option (AVal U) :=
  match va, vb with
  | .bool p, .bool q => match want with
    | true => match y with
      | .const (.bool false) => some (.bool (b && p))
      | _ => some (.bool (cond b p q))
    | false => match x with
      | .const (.bool true) => some (.bool (b || p))
      | _ => some (.bool (cond b q p))
  | _, _ => none

def dstOk (n : Nat) (o : Oper) : Bool :=
  match o.dst with
  | some d => Nat.blt d n
  | none => true

def step (C : Cfg U) (n : Nat) (s : ASt U) (o : Oper) : Option (List Prop × ASt U) :=
  cond (dstOk n o) (match aop C o s.eval s.objs with
    | some (cs, v, ob) => some (cs, (s.putObj ob).put o.dst v)
    | none => none) none

/-- The abstract run of operations in the order of the text. What a guard shuts out is merged at its 'pick'. -/
def crun (C : Cfg U) (n : Nat) (ops : Array Oper) : Nat → List (Nat × Bool) → List Oper → ASt U → Option (List Prop × ASt U)
  | 0, _, _, _ => none
  | f + 1, asm, l, s => match l with
    | [] => some ([], s)
    | o :: rest => match guardState ops asm s o with
      | .run => match step C n s o with
        | some (cs, s') => match crun C n ops f asm rest s' with
          | some (cs', s'') => some (cs ++ cs', s'')
          | none => none
        | none => none
      | .skip => cond (dstOk n o) (crun C n ops f asm rest (s.put o.dst (.raw undef))) none
      | .branch d b want => match splitPick d (o :: rest) with
        | some (sg, pk, rest') => match guardState ops asm (clearAll s sg) pk, pk.op with
          | .run, .pick _ x y => cond (sg.all pureOp && skipOk ops d want [] sg && dstOk n pk && Nat.blt d n)
              (match crun C n ops f ((match o.guard with | some p => [p] | none => []) ++ asm) sg (s.set d (.bool want)) with
                | some (cs, s1) => match mergeVal b want x y (s1.eval (cond want x y)) ((clearAll s sg).eval (cond want y x)) with
                  | some v => match crun C n ops f asm rest' ((clearAll s sg).put pk.dst v) with
                    | some (cs', s'') => some (guarded (b = want) cs ++ cs', s'')
                    | none => none
                  | none => none
                | none => none) none
          | _, _ => none
        | none => none
      | .bad => none
end
end Go.Vm
