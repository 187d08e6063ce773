/-
  From a walk to a law's row: the law returns true, its arguments read as before. Conditions: none.
-/
import Derived.Test.YtohecfbnmmgimaaVmX
import Derived.ProofKit
import Derived.OpenShut
import Derived.JoinedCond
import Derived.JoinedOf
import Derived.JoinedAt
import Derived.RowKit3
import Derived.Carry
import Derived.Lib.SmallJoins
namespace Go.Vm
open Go.RowKit Go.ChangeShapes Go.WideShapes Go.ChangeAt
set_option linter.unusedVariables false

section
variable {H : Type} {enc : TypeId × Value → H} {P : Program} {W W' : World}

theorem trodAll_carry (hl : laidOutB P = true) (hb : Below W.heap.size W W') : ∀ (ts : List TypeId) (vs : List Value) (ds : List (DataW H)) (ps : List MemPlace), ts.all (fun t => P.readableRec t && decide (t < P.types.size)) = true →
    DataW.TrodAll enc P W 0 (fun _ => true) true ts vs ds ps → (∀ x ∈ ps, x.block < W.heap.size) → DataW.TrodAll enc P W' 0 (fun b => decide (b < W.heap.size)) true ts vs ds ps := by
  intro ts
  induction ts with
  | nil =>
    intro vs ds ps _ h _
    cases vs <;> cases ds <;> exact h
  | cons t ts ih =>
    intro vs ds ps hr h hlt
    obtain ⟨v, vs', d, ds', p, q, rfl, rfl, rfl, h0, h1⟩ := trodAll_cons h
    simp only [List.all_cons, Bool.and_eq_true, decide_eq_true_eq] at hr
    exact trodAll_cons_mk (Below.trod hl hr.1.1 hr.1.2 h0 hb fun x hx => hlt x (by simp [hx])) (ih vs' ds' q hr.2 h1 fun x hx => hlt x (by simp [hx]))

/-- A law's end: it returns true, and nothing that was there has turned. -/
theorem law_post {f : Func} {s : ChangeSpec} {tb : TypeId} {args : Array Value} {ds gs : List (DataW H)} {before : List MemPlace} (hl : laidOutB P = true) (hp : f.params.toList.all (fun t => P.readableRec t && decide (t < P.types.size)) = true)
    (hr : f.resultTypes = #[tb]) (h4 : P.underlying tb = some .bool) (hv : s.vars = []) (hs : s.fn H ds = { results := [.lit (.bool true)], args := ds })
    (hW : DataW.Whole enc P f.params.toList s.vars false W args.toList ds gs before) (hb : Below W.heap.size W W') : s.post enc P f false true false false W args (.bool true) W' := by
  have hW' := hW
  obtain ⟨p, q, hA0, hV, rfl, _, _⟩ := hW
  rw [hv] at hV
  obtain ⟨rfl, rfl⟩ := trodVars_none hV
  have hA : DataW.TrodAll enc P W 0 (fun _ => true) true f.params.toList args.toList ds p := hA0
  refine ⟨ds, [], p ++ [], [], p, [], hW', ?_, ?_, ?_, hb.frame _, fun h => by cases h⟩
  · rw [List.append_nil, hs, hr]
    exact trodAll_cons_mk (shut_bool h4 _) trodAll_mk0
  · rw [List.append_nil, hs]
    exact trodAll_carry hl hb _ _ _ _ hp hA fun x hx => hW'.lt x (by simp [hx])
  · rw [List.append_nil, hs, hv]
    rfl
end

section
variable {P : Program} {W : World}

def intAt : Value → Int
  | .int _ n => n
  | _ => 0

theorem cell_int {r : Reach} {base : Nat} {u : TypeId} {k : IntKind} {v : Value} (hu : P.underlying u = some (.int k)) (h : Cell.okWide P W r base u v) : v = .int k (intAt v) ∧ k.has (intAt v) = true := by
  cases v <;> simp_all [Cell.okWide, Cell.ok, intAt]

theorem row_ints {r : Reach} {base : Nat} {t : TypeId} {ts : List TypeId} {cs : Array Value} (hts : P.cellTypes P.depth t = some ts) (hlen : cs.size = ts.length) (hint : ∀ i, i < ts.length → P.underlying (ts.getD i 0) = some (.int .i64))
    (hrow : Row.okWide P W r base t cs) : ∃ ns : List Int, ns.length = ts.length ∧ cs = (ns.map (Value.int .i64)).toArray := by
  obtain ⟨ts', h1, _, h3⟩ := hrow
  obtain rfl : ts = ts' := Option.some.inj (hts.symm.trans h1)
  refine ⟨cs.toList.map intAt, by simp [hlen], ?_⟩
  apply Array.ext
  · simp
  · intro i hi hi'
    obtain ⟨u, hu, hok⟩ := h3 i cs[i] (by simp [hi])
    have hi2 : i < ts.length := by omega
    rw [Nat.mod_eq_of_lt hi2] at hu
    have hint' := hint i hi2
    rw [List.getD_eq_getElem?_getD, hu] at hint'
    simpa using (cell_int hint' hok).1

/-- A value whose cells are numbers, by the outer form of its type alone. -/
theorem open_ints {r : Reach} {base : Nat} {t : TypeId} {v : Value} {ts : List TypeId} (hs : isAggT P t = true) (hts : P.cellTypes P.depth t = some ts) (hlen : P.cellsOf t = ts.length) (hint : ∀ i, i < ts.length → P.underlying (ts.getD i 0) = some (.int .i64))
    (hv : Value.okWide P W r base t v) : ∃ ns : List Int, ns.length = ts.length ∧ v = .agg (ns.map (Value.int .i64)).toArray := by
  unfold isAggT at hs
  unfold Value.okWide at hv
  split at hs
  · rename_i fs hu
    rw [hu] at hv
    obtain ⟨cs, rfl, hsz, hrow⟩ := hv
    obtain ⟨ns, h1, rfl⟩ := row_ints hts (hsz.trans hlen) hint hrow
    exact ⟨ns, h1, rfl⟩
  · rename_i n e hu
    rw [hu] at hv
    obtain ⟨cs, rfl, hsz, hrow⟩ := hv
    obtain ⟨ns, h1, rfl⟩ := row_ints hts (hsz.trans hlen) hint hrow
    exact ⟨ns, h1, rfl⟩
  · cases hs

/-- Numbers as abstract cells. -/
theorem rel_ints {U : Univ} {E : Enc U} {w : World} {ρ : Nat → Option (Nat × Value)} {st : Nat → Prop} (ns : List Int) : Rel E w ρ st (.agg (ns.map (AVal.int .i64))) (.agg (ns.map (Value.int .i64)).toArray) := by
  refine .agg _ _ (by simp) (fun k hk => ?_)
  have hk' : k < ns.length := by simpa using hk
  simpa [hk'] using Rel.int _ _
end

section
variable {U : Univ} {C : Cfg U}

/-- A law's walk, from the interpreter. -/
theorem law_calls {M : Nat → Canon U} {fuel : Nat} (hs : SumOK C) (hmix : C.P.follows .mixedOrders = true) {f : FuncId} {fn : Func} {c : Code} (hf : C.P.funcs[f]? = some fn) (hb : fn.body = some c) {args : Array Value} {xs : List (AVal U)} {w : World} (hinv : C.inv w)
    (hargs : RelArgs C.E w (fun b => b < w.heap.size) xs args) (hlen : Nat.ble xs.length fn.ntmps = true) (h : Done (exec C fn.ntmps M fuel 0 c (initSt xs) (AEnds C fn fun r => r = .bool true))) :
    Calls C.P f args w fun e w' => e = .returned (.bool true) ∧ Below w.heap.size w w' := by
  refine (calls_of_exec hs hinv hmix hf hb (fun _ h => h) hargs (Nat.le_of_ble_eq_true hlen) h.out).mono ?_
  rintro e w' ⟨v, rfl, ⟨r, rfl, hr⟩, hbw⟩
  cases hr
  exact ⟨rfl, hbw⟩
end
end Go.Vm
