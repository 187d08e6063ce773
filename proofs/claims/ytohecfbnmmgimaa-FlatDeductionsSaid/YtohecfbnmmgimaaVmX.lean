/-
  Summaries, one function after another. Conditions: none.
-/
import Derived.Test.YtohecfbnmmgimaaVmW
namespace Go.Vm
open Go.RowKit
set_option linter.unusedVariables false

section
variable {U : Univ}

/-- The bodies of the loops of a code, in the text's order. -/
def loopsOf : Code → List Code
  | .seq x y => loopsOf x ++ loopsOf y
  | .cond _ x y => loopsOf x ++ loopsOf y
  | .block _ c => loopsOf c
  | .loop c => c :: loopsOf c
  | _ => []

abbrev Model (U : Univ) := List (AVal U) → Option (List Prop × AVal U)

def Cfg.add (C : Cfg U) (f : FuncId) (m : Model U) : Cfg U := { C with sum := fun g => cond (Nat.beq g f) (some m) (C.sum g) }

theorem callFunc_run {P : Program} {f : FuncId} {fn : Func} {c : Code} (hf : P.funcs[f]? = some fn) (hn : (fn.name == "runtime.NumGoroutine") = false) (hb : fn.body = some c) (args : Array Value) (w : World) :
    (callFunc f args).run P w = .ok (.enter f args) w := by
  have hn' : fn.name ≠ "runtime.NumGoroutine" := by simpa using hn
  simp [callFunc, hf, hn', hb]

theorem RelArgs.nlt {E : Enc U} {w : World} {N : Nat → Prop} {xs : List (AVal U)} {args : Array Value} (h : RelArgs E w N xs args) : args.size = xs.length := h.1

theorem SumOK.add {C : Cfg U} (hs : SumOK C) (hmix : C.P.follows .mixedOrders = true) {f : FuncId} {m : Model U} {fn : Func} {c : Code} (hf : C.P.funcs[f]? = some fn) (hn : (fn.name == "runtime.NumGoroutine") = false)
    (hb : fn.body = some c) (hx : ∀ xs cs r, m xs = some (cs, r) → conj cs → Nat.ble xs.length fn.ntmps = true ∧ ∃ M fuel, exec C fn.ntmps M fuel 0 c (initSt xs) (AEnds C fn fun r' => r' = r)) : SumOK (C.add f m) := by
  intro g m' hg
  simp only [Cfg.add, cond_beq] at hg
  by_cases h : g = f
  · subst h
    rw [if_pos rfl] at hg
    obtain rfl := Option.some.inj hg
    refine ⟨fun args w => callFunc_run (P := C.P) hf hn hb args w, fun N w args xs cs r hinv hN hargs hm hc => ?_⟩
    obtain ⟨hl, M, fuel, hex⟩ := hx xs cs r hm hc
    refine (calls_of_exec (w := w) (N := N) hs hinv hmix hf hb hN hargs (Nat.le_of_ble_eq_true hl) hex).mono ?_
    rintro e w' ⟨v, rfl, ⟨r', rfl, hr⟩, hbw⟩
    exact ⟨v, rfl, hr, hbw⟩
  · rw [if_neg h] at hg
    exact hs g m' hg

/-- A contract that was proved otherwise. -/
theorem SumOK.put {C : Cfg U} (hs : SumOK C) {f : FuncId} {m : Model U} (h : (∀ (args : Array Value) (w : World), (callFunc f args).run C.P w = .ok (.enter f args) w) ∧
  ∀ (N : Nat → Prop) (w : World) (args : Array Value) (xs : List (AVal U)) (cs : List Prop) (r : AVal U), C.inv w → (∀ b, N b → b < w.heap.size) → RelArgs C.E w N xs args → m xs = some (cs, r) → conj cs →
    Calls C.P f args w fun e w' => ∃ v, e = .returned v ∧ Rel C.E w' noOwn (Out' N w') r v ∧ Below w.heap.size w w') : SumOK (C.add f m) := by
  intro g m' hg
  simp only [Cfg.add, cond_beq] at hg
  by_cases h' : g = f
  · subst h'
    rw [if_pos rfl] at hg
    obtain rfl := Option.some.inj hg
    exact h
  · rw [if_neg h'] at hg
    exact hs g m' hg

/-- A proposition, not to be unfolded. -/
structure Done (p : Prop) : Prop where
  out : p
theorem Done.of {p q : Prop} (h : p = q) (hq : q) : Done p := ⟨h ▸ hq⟩

theorem SumOK.addD {C : Cfg U} (hs : SumOK C) (hmix : C.P.follows .mixedOrders = true) {f : FuncId} {m : Model U} {fn : Func} {c : Code} (hf : C.P.funcs[f]? = some fn) (hn : (fn.name == "runtime.NumGoroutine") = false)
    (hb : fn.body = some c) (hx : ∀ xs cs r, m xs = some (cs, r) → conj cs → Nat.ble xs.length fn.ntmps = true ∧ ∃ M fuel, Done (exec C fn.ntmps M fuel 0 c (initSt xs) (AEnds C fn fun r' => r' = r))) : SumOK (C.add f m) :=
  hs.add hmix hf hn hb fun xs cs r h hc => ⟨(hx xs cs r h hc).1, (hx xs cs r h hc).2.elim fun M h => h.elim fun fuel h => ⟨M, fuel, h.out⟩⟩

/-- What comes behind a block; behind the first part of a sequence; behind a round of a loop. -/
def kBlock (id : Nat) (K : AEx → ASt U → Prop) : AEx → ASt U → Prop := fun e s' => match e with
  | .exit id' => cond (Nat.beq id' id) (K .normal s') (K (.exit id') s')
  | e => K e s'
def kSeq (C : Cfg U) (n : Nat) (M : Nat → Canon U) (fuel cur : Nat) (y : Code) (K : AEx → ASt U → Prop) : AEx → ASt U → Prop := fun e s' => match e with
  | .normal => exec C n M fuel cur y s' K
  | e => K e s'
def kIter (B : ASt U → (AEx → ASt U → Prop) → Prop) (m : Canon U) (f : Nat) (K : AEx → ASt U → Prop) : AEx → ASt U → Prop := fun e s' => match e with
  | .normal => match canon m s' with
    | some s'' => iter B m f s'' K
    | none => False
  | e => match canon m s' with
    | some s'' => K e s''
    | none => False
/-- The parts of a code. -/
noncomputable def bo (f : Func) : Code := f.body.getD .skip
def cF : Code → Code
  | .seq x _ => x
  | c => c
def cS : Code → Code
  | .seq _ y => y
  | c => c
def cB : Code → Code
  | .block _ x => x
  | c => c
def cL : Code → Code
  | .loop x => x
  | c => c
def cT : Code → Code
  | .cond _ x _ => x
  | c => c
def cE : Code → Code
  | .cond _ _ y => y
  | c => c
abbrev w64 (n : Int) : Int := IntKind.i64.wrap n
def mi (a b : Int) : Int := if b < a then b else a
def ma (a b : Int) : Int := if a < b then b else a

theorem back {p q : Prop} (h : p = q) (hq : q) : p := h ▸ hq
end
end Go.Vm
