/- Texts of this proof, one behind another: A strings.Builder as an object of the interpreter. Conditions: none.; The maps of program.dialects as things that nobody writes: what it means, and what is foun; What program.dialects returns: the map of the three dialects, in new memory. Conditions: n; The kinds of elements of this seat's slices, and the first configuration of the interprete; strings.Builder at this program: what copyCheck and WriteString change, block by block. Co; The contracts of the library's functions that this seat calls: strings.Builder, strconv, s; What the rows of this seat give and ask: the variables that are laid, a world that lays th; Arguments of ProgramTexts: a number and a text; strconv's errors. Conditions: none.; What pieces of code must make hold, in plain Lean; printed by gen.py. Conditions: none; de; What pieces of code must make hold, in plain Lean; printed by gen.py. Conditions: none; de; Lists of rectangles: what valid, Rights and inside return. Conditions: none.; What pieces of code must make hold, in plain Lean; printed by gen.py. Conditions: none; de; Sheets: what ValidateSheet returns. Conditions: none.; What pieces of code must make hold, in plain Lean; printed by gen.py. Conditions: none; de; Lists that are compared; the reference's union of lines; numbers in range. Conditions: non; What pieces of code must make hold, in plain Lean; printed by gen.py. Conditions: none; de; The first rectangle that a line goes through. Conditions: none.; What pieces of code must make hold, in plai. Conditions: none. -/
import Derived.Test.YteffpgliiilnjaaGreatDoorMT1
import Derived.Test.YteffpgliiilnjaaGreatDoorMT3
import GoSem.Instr.Lookup
import GoSem.Instr.MapUpdate
import Derived.MapKept
import Derived.WalkKit
import Derived.WalkSmall
import Derived.Test.YteffpgliiilnjaaGreatDoorRows
import Derived.HandedShaped
import Derived.Handed
import Derived.LaidLaws
import Derived.LaidHandle
import Derived.LaidSub
import Derived.Stop.LaidErr
import Derived.Lib.LaidTab
import Derived.Lay
import Derived.MakeChecks
import Derived.ChangeMaps5
import Derived.Shelf.SlSortCmp.Insertion
import Derived.Lib.ItoaLen
import Derived.Lib.ItoaNum
import Derived.Lib.AtoiTie
import Derived.Lib.SplitLaws
set_option linter.unusedVariables false
namespace Go.Proofs.YteffpgliiilnjaaGreatDoor
open Go.Vm Go.RowKit
def pB (s : ByteArray) (w : World) (base : Nat) (p : Option (Nat × Value)) (f : Nat → Option (Nat × Value)) : Prop :=
 ∃ b v, p = some (0, .pointer (some ⟨b, 0, none⟩)) ∧ yW 119 5 base b v (Lib.strCells s) w ∧ (∀ j, f (j + 1) = none) ∧ (v = .slice none 0 0 ∧ f 0 = none ∨ ∃ g, f 0 = some (g, v))
def a8 (w : World) (base : Nat) (p : Option (Nat × Value)) (f : Nat → Option (Nat × Value)) : Prop :=
 (∃ b, p = some (0, .pointer (some ⟨b, 0, none⟩)) ∧ base ≤ b ∧ b < w.heap.size) ∧ ∀ i g u, f i = some (g, u) → u.oneCell' = true ∧ ∀ b, blk u = some b → base ≤ b ∧ b < w.heap.size
theorem aBy {w : World} {base : Nat} {e : TypeId} {m k : Nat} {u : Value} {cs : List Value} (h : w.ownsRow base e m u k cs) : ∀ a, u ≠ .pointer a := fun a => by
 rcases h.2 with ⟨rfl, _⟩ | ⟨_, _, _, rfl, _⟩ <;> intro e <;> cases e
theorem aP5 {s : ByteArray} {w : World} {base : Nat} {p : Option (Nat × Value)} {f : Nat → Option (Nat × Value)} (h : pB s w base p f) : ∃ g u, p = some (g, u) ∧ u.oneCell' = true ∧ ∀ b, blk u = some b → base ≤ b ∧ b < w.heap.size := by
 obtain ⟨b, v, hp, ⟨h1, ⟨q, _, h2⟩, _⟩, _⟩ := h
 refine ⟨_, _, hp, rfl, fun b' hb' => ?_⟩
 simp only [blk, Option.some.injEq] at hb'
 subst hb'
 exact ⟨h1, (Array.getElem?_eq_some_iff.1 h2).1⟩
theorem aP3 {w : World} {base : Nat} {p : Option (Nat × Value)} {f : Nat → Option (Nat × Value)} (h : a8 w base p f) : ∃ g u, p = some (g, u) ∧ u.oneCell' = true ∧ ∀ b, blk u = some b → base ≤ b ∧ b < w.heap.size := by
 obtain ⟨⟨b, hp, q1, q2⟩, _⟩ := h
 refine ⟨_, _, hp, rfl, fun b' hb' => ?_⟩
 simp only [blk, Option.some.injEq] at hb'
 subst hb'
 exact ⟨q1, q2⟩
theorem aIt {s : ByteArray} {w : World} {base : Nat} {p : Option (Nat × Value)} {f : Nat → Option (Nat × Value)} {i g : Nat} {u : Value} (h : pB s w base p f) (hu : f i = some (g, u)) : u.oneCell' = true ∧ ∀ b, blk u = some b → base ≤ b ∧ b < w.heap.size := by
 obtain ⟨b, v, hp, ⟨_, _, h3, _⟩, h4, h5⟩ := h
 cases i with
 | succ j => rw [h4] at hu; cases hu
 | zero =>
  rcases h5 with ⟨_, h5⟩ | ⟨g', h5⟩
  ·rw [h5] at hu; cases hu
  ·rw [h5] at hu
   cases hu
   exact mN h3 (aBy h3)
theorem aP6 {s : ByteArray} {w w' : World} {base : Nat} {p : Option (Nat × Value)} {f : Nat → Option (Nat × Value)} (h : pB s w base p f) (h1 : ∀ g u b, p = some (g, u) → blk u = some b → w'.heap[b]? = w.heap[b]?)
  (h2 : ∀ i g u b, f i = some (g, u) → blk u = some b → w'.heap[b]? = w.heap[b]?) : pB s w' base p f := by
 obtain ⟨b, v, hp, ⟨q1, ⟨q, q2, q3⟩, q4, q5, q6⟩, h4, h5⟩ := h
 refine ⟨b, v, hp, ⟨q1, ⟨q, q2, by rw [h1 _ _ b hp rfl]; exact q3⟩, ⟨q4.1, ?_⟩, q5, q6⟩, h4, h5⟩
 rcases q4.2 with hn | ⟨g', cap, cur, rfl, hb, hg, rest⟩
 ·exact .inl hn
 ·rcases h5 with ⟨e, _⟩ | ⟨g, h5⟩
  ·cases e
  ·exact .inr ⟨g', cap, cur, rfl, hb, by rw [h2 0 g _ g' h5 rfl]; exact hg, rest⟩
theorem aP4 {w w' : World} {base : Nat} {p : Option (Nat × Value)} {f : Nat → Option (Nat × Value)} (h : a8 w base p f) (h1 : ∀ g u b, p = some (g, u) → blk u = some b → w'.heap[b]? = w.heap[b]?)
  (h2 : ∀ i g u b, f i = some (g, u) → blk u = some b → w'.heap[b]? = w.heap[b]?) : a8 w' base p f := by
 obtain ⟨⟨b, hp, q1, q2⟩, h3⟩ := h
 have lt : ∀ b, b < w.heap.size → w'.heap[b]? = w.heap[b]? → b < w'.heap.size := fun b hb e => by
  rw [Array.getElem?_eq_getElem hb] at e
  exact (Array.getElem?_eq_some_iff.1 e).1
 refine ⟨⟨b, hp, q1, lt b q2 (h1 _ _ b hp rfl)⟩, fun i g u hu => ⟨(h3 i g u hu).1, fun b hb => ?_⟩⟩
 have := (h3 i g u hu).2 b hb
 exact ⟨this.1, lt b this.2 (h2 i g u b hu hb)⟩
def aLt (w : World) : Prop := w.cell? ⟨0, 0, none⟩ = some (.iface 244 (.agg #[.pointer (some ⟨9, 73, none⟩)]))
def inv1 (w : World) : Prop := (wM w ∧ aLt w) ∧ Lib.TabIs Tryz.prog w "internal/strconv.uint64pow10" .u64 Lib.pow10Tab
theorem aZD {w w' : World} {g : Nat} {v : Value} (h : w.cell? ⟨g, 0, none⟩ = some v) (hb : Below w.heap.size w w') : w'.cell? ⟨g, 0, none⟩ = some v := by
 rw [hb.cell ?_, h]
 show g < w.heap.size
 rcases Nat.lt_or_ge g w.heap.size with h0 | h0
 ·exact h0
 ·have h1 : w.heap[g]? = none := by simp [h0]
  simp [World.cell?, h1] at h
theorem aTn (w w' : World) (h : inv1 w) (hb : Below w.heap.size w w') : inv1 w' := by
 obtain ⟨⟨h1, h0⟩, h4⟩ := h
 refine ⟨⟨aTo w w' h1 hb, aZD h0 hb⟩, ?_⟩
 unfold Lib.TabIs World.var? at *
 cases hg : Tryz.prog.globalNamed "internal/strconv.uint64pow10" with
 | none => rw [hg] at h4; cases h4
 | some g =>
  rw [hg] at h4
  simp only [Option.bind_some] at h4 ⊢
  rcases Nat.lt_or_ge g w.heap.size with h0 | h0
  ·rw [hb.block g h0]
   exact h4
  ·have h5 : w.heap[g]? = none := by simp [h0]
   rw [h5] at h4
   cases h4
theorem aZU (w : World) (base : Nat) (h : base ≤ w.heap.size) : ∃ w', (Instr.alloc 119 true (.tuple #[])).run Tryz.prog w = .ok (.pointer (some ⟨w.heap.size, 0, none⟩)) w' ∧ Below w.heap.size w w' ∧
  pB ByteArray.empty w' base (some (0, .pointer (some ⟨w.heap.size, 0, none⟩))) (fun _ => none) := by
 have hz : (zeroValue 119).run Tryz.prog w = .ok (.agg #[.pointer none, .slice none 0 0]) w := Tryz.zeroValue119 w
 refine ⟨w.alloc (.cells #[.pointer none, .slice none 0 0] 119), ?_, ⟨rfl, rfl, rfl, by simp, fun k hk => heap_alloc_old w _ hk⟩, w.heap.size, .slice none 0 0, rfl, ⟨h, ⟨.pointer none, .inl rfl, heap_alloc_new w _⟩, World.ownsRow_nil _ _ _ _, by simp [Value.ownBlock], by constructor <;> intro _ <;> rfl⟩, fun _ => rfl, .inl ⟨rfl, rfl⟩⟩
 simp [Instr.alloc, hz, newVar, newRow, Value.cells]
end Go.Proofs.YteffpgliiilnjaaGreatDoor
set_option linter.unusedVariables false
namespace Go.Proofs.YteffpgliiilnjaaGreatDoor
open Go.Vm Go.RowKit
def fP : List (Int × Value) → Nat → List MapEntry
 | [], _ => []
 | (k, v) :: l, c => { key := .int .i64 k, val := v, born := c } :: fP l (c + 1)
def oY (z : Value) : List (Int × Value) → Int → Value
 | [], _ => z
 | (k, v) :: l, n => cond (n == k) v (oY z l n)
def fO : zzI → Int → Bool
 | [], _ => false
 | k :: l, n => cond (n == k) true (fO l n)
def eI : List (Int × ByteArray) → Int → ByteArray
 | [], _ => ByteArray.empty
 | (k, v) :: l, n => cond (n == k) v (eI l n)
def strs (l : List (Int × ByteArray)) : List (Int × Value) := l.map fun p => (p.1, .string p.2)
theorem aIb : ∀ (l : List (Int × ByteArray)) (n : Int), oY (.string ByteArray.empty) (strs l) n = .string (eI l n)
 | [], n => rfl
 | (k, v) :: l, n => by
  have ih := aIb l n
  unfold strs at ih ⊢
  simp only [List.map_cons, oY, eI]
  cases n == k
  ·exact ih
  ·rfl
theorem aGV (n : Int) (z : Value) : ∀ (l : List (Int × Value)) (c i : Nat), ∃ r, Instr.findNow (.int .i64) (.int .i64 n) (fP l c) i = some r ∧
  ((fO (l.map (·.1)) n = false ∧ r = none ∧ oY z l n = z) ∨ (fO (l.map (·.1)) n = true ∧ ∃ j, r = some (j, oY z l n)))
 | [], c, i => ⟨none, rfl, .inl ⟨rfl, rfl, rfl⟩⟩
 | (k, v) :: l, c, i => by
  obtain ⟨r, h1, h2⟩ := aGV n z l (c + 1) (i + 1)
  simp only [fP, Instr.findNow, Instr.sameNow, if_true, List.map_cons, fO, oY]
  cases hb : n == k with
  | true => exact ⟨some (i, v), rfl, .inr ⟨rfl, i, rfl⟩⟩
  | false => exact ⟨r, h1, h2⟩
theorem aMQ {k : TypeId} (hk : Tryz.prog.underlying k = some (.int .i64)) {q : Bool} {n : Int} {w : World} : (Instr.checkKey q 10000 k (.int .i64 n)).run Tryz.prog w = .ok () w := by
 rw [show (10000 : Nat) = 9999 + 1 from rfl]
 unfold Instr.checkKey
 simp only [Sem.run_bind, run_underlying hk, Result.andThen_ok]
 rfl
theorem aKY {t k e : TypeId} (ht : Tryz.prog.underlying t = some (.map k e)) (hk : Tryz.prog.underlying k = some (.int .i64)) {z : Value} {w : World} (hz : (zeroValue e).run Tryz.prog w = .ok z w) {b clock : Nat} {l : List (Int × Value)} (hb : w.heap[b]? = some (.map (fP l 0).toArray clock)) (n : Int) :
  (Instr.lookup t (.map (some b)) (.int .i64 n) true).run Tryz.prog w = .ok (.tuple #[oY z l n, .bool (fO (l.map (·.1)) n)]) w := by
 obtain ⟨r, h1, h2⟩ := aGV n z l 0 0
 have hc : ∀ q, (Instr.checkKey q 10000 k (.int .i64 n)).run Tryz.prog w = .ok () w := fun q => by
  rw [aMQ hk]
 have hf : (Instr.findKey k (.int .i64 n) (fP l 0)).run Tryz.prog w = .ok r w := by
  unfold Instr.findKey
  simp only [Sem.run_bind, run_underlying hk, Result.andThen_ok, h1, Sem.run_pure]
 have hg := MapKept.run_getObj_map (P := Tryz.prog) hb
 unfold Instr.lookup
 rcases h2 with ⟨h3, rfl, h4⟩ | ⟨h3, j, rfl⟩
 ·simp only [Sem.run_bind, run_underlying ht, Result.andThen_ok, hg, hc, hf, hz, Sem.run_pure]
  rw [h3, h4]
  rfl
 ·simp only [Sem.run_bind, run_underlying ht, Result.andThen_ok, hg, hc, hf, Sem.run_pure]
  rw [h3]
  rfl
theorem aLw : ∀ (l : List (Int × Value)) (c : Nat) (n : Int) (v : Value), fP (l ++ [(n, v)]) c = fP l c ++ [{ key := .int .i64 n, val := v, born := c + l.length }]
 | [], c, n, v => rfl
 | (k, x) :: l, c, n, v => by
  simp only [List.cons_append, fP, aLw l (c + 1) n v, List.length_cons]
  rw [show c + 1 + l.length = c + (l.length + 1) by omega]
theorem aTr {t k e : TypeId} (ht : Tryz.prog.underlying t = some (.map k e)) (hk : Tryz.prog.underlying k = some (.int .i64)) {w : World} {b : Nat} {l : List (Int × Value)} (hb : w.heap[b]? = some (.map (fP l 0).toArray l.length)) (n : Int) (v : Value) (hn : fO (l.map (·.1)) n = false) :
  (Instr.mapUpdate t (.map (some b)) (.int .i64 n) v).run Tryz.prog w = .ok () { w with heap := w.heap.setIfInBounds b (.map (fP (l ++ [(n, v)]) 0).toArray (l ++ [(n, v)]).length) } := by
 obtain ⟨r, h1, h2⟩ := aGV n (.map none) l 0 0
 have hr : r = none := by
  rcases h2 with ⟨_, h, _⟩ | ⟨h, _⟩
  ·exact h
  ·rw [hn] at h; cases h
 subst hr
 have hf : (Instr.findKey k (.int .i64 n) (fP l 0)).run Tryz.prog w = .ok none w := by
  unfold Instr.findKey
  simp only [Sem.run_bind, run_underlying hk, Result.andThen_ok, h1, Sem.run_pure]
 have hg := MapKept.run_getObj_map (P := Tryz.prog) hb
 have hs := MapKept.run_setObj_map (P := Tryz.prog) (.map ((fP l 0).toArray.push { key := .int .i64 n, val := v, born := l.length }) (l.length + 1)) hb
 unfold Instr.mapUpdate
 simp only [Sem.run_bind, run_underlying ht, Result.andThen_ok, hg, aMQ hk, hf, hs]
 rw [aLw, List.length_append, Nat.zero_add]
 have e : ∀ x : MapEntry, (fP l 0).toArray.push x = (fP l 0 ++ [x]).toArray := fun x => by simp
 rw [e]
 rfl
inductive Frz where
 | D
 | W1
 | W2
 | W3
def gQ : List (Int × ByteArray) := [(1, ByteArray.mk #[109, 111, 118, 101]), (2, ByteArray.mk #[108, 105, 110, 101]), (4, ByteArray.mk #[98, 114, 101, 97, 107]), (3, ByteArray.mk #[115, 116, 97, 109, 112])]
def gJ : List (Int × ByteArray) := [(1, ByteArray.mk #[109]), (2, ByteArray.mk #[108]), (4, ByteArray.mk #[98]), (3, ByteArray.mk #[115])]
def gP : List (Int × ByteArray) := [(5, ByteArray.mk #[109, 111, 117, 110, 116]), (6, ByteArray.mk #[98, 101, 110, 100])]
def fv (f : Nat) : Value := .func (.func f) #[] #[]
def lD (v1 v2 v3 : Value) : List (Int × Value) := [(1, .agg #[v1, fv 112, fv 114]), (2, .agg #[v2, fv 113, fv 115]), (3, .agg #[v3, fv 116, fv 117])]
def isMap (l : List (Int × Value)) (w : World) (st : Nat → Prop) (v : Value) : Prop := ∃ b, v = .map (some b) ∧ st b ∧ w.heap[b]? = some (.map (fP l 0).toArray l.length)
def wY : Frz → World → (Nat → Prop) → Value → Prop
 | .W1, w, st, v => isMap (strs gQ) w st v
 | .W2, w, st, v => isMap (strs gJ) w st v
 | .W3, w, st, v => isMap (strs gP) w st v
 | .D, w, st, v => ∃ v1 v2 v3, isMap (strs gQ) w st v1 ∧ isMap (strs gJ) w st v2 ∧ isMap (strs gP) w st v3 ∧ isMap (lD v1 v2 v3) w st v
theorem l7 {l : List (Int × Value)} {w w' : World} {st st' : Nat → Prop} {v : Value} (h : isMap l w st v) (hst : ∀ b, st b → st' b ∧ w'.heap[b]? = w.heap[b]?) : isMap l w' st' v := by
 obtain ⟨b, rfl, h1, h2⟩ := h
 exact ⟨b, rfl, (hst b h1).1, (hst b h1).2.trans h2⟩
theorem aU0 : ∀ k w w' st st' v, wY k w st v → (∀ b, st b → st' b ∧ w'.heap[b]? = w.heap[b]?) → wY k w' st' v := by
 intro k w w' st st' v h hst
 cases k with
 | D =>
  obtain ⟨v1, v2, v3, h1, h2, h3, h4⟩ := h
  exact ⟨v1, v2, v3, l7 h1 hst, l7 h2 hst, l7 h3 hst, l7 h4 hst⟩
 | _ => exact l7 h hst
theorem aU1 : ∀ k w st v, wY k w st v → v.oneCell' = true := by
 intro k w st v h
 cases k with
 | D =>
  obtain ⟨v1, v2, v3, h1, h2, h3, b, rfl, _⟩ := h
  rfl
 | _ =>
  obtain ⟨b, rfl, _⟩ := h
  rfl
end Go.Proofs.YteffpgliiilnjaaGreatDoor
set_option linter.unusedVariables false
namespace Go.Proofs.YteffpgliiilnjaaGreatDoor
open Go.Vm Go.RowKit
def M (l : List (Int × Value)) : Obj := .map (fP l 0).toArray l.length
def gr (w : World) (xs : List Obj) : World := { w with heap := w.heap ++ xs.toArray }
theorem aUV (w : World) : w = gr w [] := by
 cases w
 simp [gr]
theorem p7 (w : World) (xs : List Obj) (i : Nat) : (gr w xs).heap[w.heap.size + i]? = xs[i]? := by
 show (w.heap ++ xs.toArray)[w.heap.size + i]? = _
 rw [Array.getElem?_append_right (by omega), Nat.add_sub_cancel_left]
 simp
theorem aUW (w : World) (xs : List Obj) : Below w.heap.size w (gr w xs) :=
 ⟨rfl, rfl, rfl, by simp [gr], fun k hk => by show (w.heap ++ xs.toArray)[k]? = _; rw [Array.getElem?_append_left hk]⟩
theorem aAy (t : TypeId) (w : World) (xs : List Obj) : (Instr.makeMap t none).run Tryz.prog (gr w xs) = .ok (.map (some (w.heap.size + xs.length))) (gr w (xs ++ [M []])) := by
 have e : ∀ (w' : World), (Instr.makeMap t none).run Tryz.prog w' = .ok (.map (some w'.heap.size)) { w' with heap := w'.heap.push (.map #[] 0) } := fun w' => rfl
 rw [e]
 have h1 : (gr w xs).heap.size = w.heap.size + xs.length := by simp [gr]
 rw [h1]
 have h2 : ({ gr w xs with heap := (gr w xs).heap.push (.map #[] 0) } : World) = gr w (xs ++ [M []]) := by
  simp only [gr, M, fP, List.length_nil, World.mk.injEq, and_true]
  rw [Array.push_eq_append, Array.append_assoc]
  simp
 rw [h2]
theorem mS {t k e : TypeId} (ht : Tryz.prog.underlying t = some (.map k e)) (hk : Tryz.prog.underlying k = some (.int .i64)) (w : World) (xs xs' : List Obj) (i : Nat) (l : List (Int × Value)) (n : Int) (v : Value) (hx : xs[i]? = some (M l)) (hn : fO (l.map (·.1)) n = false) (h' : xs.set i (M (l ++ [(n, v)])) = xs') :
  (Instr.mapUpdate t (.map (some (w.heap.size + i))) (.int .i64 n) v).run Tryz.prog (gr w xs) = .ok () (gr w xs') := by
 have hb : (gr w xs).heap[w.heap.size + i]? = some (.map (fP l 0).toArray l.length) := (p7 w xs i).trans hx
 rw [aTr ht hk hb n v hn, ← h']
 have h2 : ({ gr w xs with heap := (gr w xs).heap.setIfInBounds (w.heap.size + i) (.map (fP (l ++ [(n, v)]) 0).toArray (l ++ [(n, v)]).length) } : World) = gr w (xs.set i (M (l ++ [(n, v)]))) := by
  simp only [gr, M, World.mk.injEq, and_true]
  rw [Array.setIfInBounds_append_right (by omega), Nat.add_sub_cancel_left]
  simp
 rw [h2]
theorem aEh {t k e : TypeId} (ht : Tryz.prog.underlying t = some (.map k e)) (hk : Tryz.prog.underlying k = some (.int .i64)) (w : World) (xs xs' : List Obj) (l : List (Int × Value)) (n : Int) (v : Value) (hx : xs[0]? = some (M l)) (hn : fO (l.map (·.1)) n = false) (h' : xs.set 0 (M (l ++ [(n, v)])) = xs') :
  (Instr.mapUpdate t (.map (some w.heap.size)) (.int .i64 n) v).run Tryz.prog (gr w xs) = .ok () (gr w xs') :=
 mS ht hk w xs xs' 0 l n v hx hn h'
set_option maxRecDepth 100000 in
theorem aXo (w : World) : Calls Tryz.prog 51 #[] w fun e w' => e = .returned (.map (some w.heap.size)) ∧
  w' = gr w [M (lD (.map (some (w.heap.size + 1))) (.map (some (w.heap.size + 2))) (.map (some (w.heap.size + 3)))), M (strs gQ), M (strs gJ), M (strs gP)] := by
 have key : Calls Tryz.prog 51 #[] (gr w []) fun e w' => e = .returned (.map (some w.heap.size)) ∧
   w' = gr w [M (lD (.map (some (w.heap.size + 1))) (.map (some (w.heap.size + 2))) (.map (some (w.heap.size + 3)))), M (strs gQ), M (strs gJ), M (strs gP)] := by
  go_enter Tryz.func51, Tryz.ntmps51
  go_wp2
  rw [aAy]
  go_wp2
  rw [aAy]
  go_wp2
  rw [mS Tryz.underlying108 Tryz.underlying3 w _ [M [], M [(1, .string (ByteArray.mk #[109, 111, 118, 101]))]] 1 [] 1 (.string (ByteArray.mk #[109, 111, 118, 101])) rfl rfl rfl]
  go_wp2
  rw [mS Tryz.underlying108 Tryz.underlying3 w _ [M [], M [(1, .string (ByteArray.mk #[109, 111, 118, 101])), (2, .string (ByteArray.mk #[108, 105, 110, 101]))]] 1 [(1, .string (ByteArray.mk #[109, 111, 118, 101]))] 2 (.string (ByteArray.mk #[108, 105, 110, 101])) rfl rfl rfl]
  go_wp2
  rw [mS Tryz.underlying108 Tryz.underlying3 w _ [M [], M [(1, .string (ByteArray.mk #[109, 111, 118, 101])), (2, .string (ByteArray.mk #[108, 105, 110, 101])), (4, .string (ByteArray.mk #[98, 114, 101, 97, 107]))]] 1 [(1, .string (ByteArray.mk #[109, 111, 118, 101])), (2, .string (ByteArray.mk #[108, 105, 110, 101]))] 4 (.string (ByteArray.mk #[98, 114, 101, 97, 107])) rfl rfl rfl]
  go_wp2
  rw [mS Tryz.underlying108 Tryz.underlying3 w _ [M [], M [(1, .string (ByteArray.mk #[109, 111, 118, 101])), (2, .string (ByteArray.mk #[108, 105, 110, 101])), (4, .string (ByteArray.mk #[98, 114, 101, 97, 107])), (3, .string (ByteArray.mk #[115, 116, 97, 109, 112]))]] 1 [(1, .string (ByteArray.mk #[109, 111, 118, 101])), (2, .string (ByteArray.mk #[108, 105, 110, 101])), (4, .string (ByteArray.mk #[98, 114, 101, 97, 107]))] 3 (.string (ByteArray.mk #[115, 116, 97, 109, 112])) rfl rfl rfl]
  go_wp2
  rw [aEh Tryz.underlying114 Tryz.underlying3 w _ [M [(1, .agg #[.map (some (w.heap.size + 1)), Value.func (Fn.func 112) #[] #[], Value.func (Fn.func 114) #[] #[]])], M [(1, .string (ByteArray.mk #[109, 111, 118, 101])), (2, .string (ByteArray.mk #[108, 105, 110, 101])), (4, .string (ByteArray.mk #[98, 114, 101, 97, 107])), (3, .string (ByteArray.mk #[115, 116, 97, 109, 112]))]] [] 1 (.agg #[.map (some (w.heap.size + 1)), Value.func (Fn.func 112) #[] #[], Value.func (Fn.func 114) #[] #[]]) rfl rfl rfl]
  go_wp2
  rw [aAy]
  go_wp2
  rw [mS Tryz.underlying108 Tryz.underlying3 w _ [M [(1, .agg #[.map (some (w.heap.size + 1)), Value.func (Fn.func 112) #[] #[], Value.func (Fn.func 114) #[] #[]])], M [(1, .string (ByteArray.mk #[109, 111, 118, 101])), (2, .string (ByteArray.mk #[108, 105, 110, 101])), (4, .string (ByteArray.mk #[98, 114, 101, 97, 107])), (3, .string (ByteArray.mk #[115, 116, 97, 109, 112]))], M [(1, .string (ByteArray.mk #[109]))]] 2 [] 1 (.string (ByteArray.mk #[109])) rfl rfl rfl]
  go_wp2
  rw [mS Tryz.underlying108 Tryz.underlying3 w _ [M [(1, .agg #[.map (some (w.heap.size + 1)), Value.func (Fn.func 112) #[] #[], Value.func (Fn.func 114) #[] #[]])], M [(1, .string (ByteArray.mk #[109, 111, 118, 101])), (2, .string (ByteArray.mk #[108, 105, 110, 101])), (4, .string (ByteArray.mk #[98, 114, 101, 97, 107])), (3, .string (ByteArray.mk #[115, 116, 97, 109, 112]))], M [(1, .string (ByteArray.mk #[109])), (2, .string (ByteArray.mk #[108]))]] 2 [(1, .string (ByteArray.mk #[109]))] 2 (.string (ByteArray.mk #[108])) rfl rfl rfl]
  go_wp2
  rw [mS Tryz.underlying108 Tryz.underlying3 w _ [M [(1, .agg #[.map (some (w.heap.size + 1)), Value.func (Fn.func 112) #[] #[], Value.func (Fn.func 114) #[] #[]])], M [(1, .string (ByteArray.mk #[109, 111, 118, 101])), (2, .string (ByteArray.mk #[108, 105, 110, 101])), (4, .string (ByteArray.mk #[98, 114, 101, 97, 107])), (3, .string (ByteArray.mk #[115, 116, 97, 109, 112]))], M [(1, .string (ByteArray.mk #[109])), (2, .string (ByteArray.mk #[108])), (4, .string (ByteArray.mk #[98]))]] 2 [(1, .string (ByteArray.mk #[109])), (2, .string (ByteArray.mk #[108]))] 4 (.string (ByteArray.mk #[98])) rfl rfl rfl]
  go_wp2
  rw [mS Tryz.underlying108 Tryz.underlying3 w _ [M [(1, .agg #[.map (some (w.heap.size + 1)), Value.func (Fn.func 112) #[] #[], Value.func (Fn.func 114) #[] #[]])], M [(1, .string (ByteArray.mk #[109, 111, 118, 101])), (2, .string (ByteArray.mk #[108, 105, 110, 101])), (4, .string (ByteArray.mk #[98, 114, 101, 97, 107])), (3, .string (ByteArray.mk #[115, 116, 97, 109, 112]))], M [(1, .string (ByteArray.mk #[109])), (2, .string (ByteArray.mk #[108])), (4, .string (ByteArray.mk #[98])), (3, .string (ByteArray.mk #[115]))]] 2 [(1, .string (ByteArray.mk #[109])), (2, .string (ByteArray.mk #[108])), (4, .string (ByteArray.mk #[98]))] 3 (.string (ByteArray.mk #[115])) rfl rfl rfl]
  go_wp2
  rw [aEh Tryz.underlying114 Tryz.underlying3 w _ [M [(1, .agg #[.map (some (w.heap.size + 1)), Value.func (Fn.func 112) #[] #[], Value.func (Fn.func 114) #[] #[]]), (2, .agg #[.map (some (w.heap.size + 2)), Value.func (Fn.func 113) #[] #[], Value.func (Fn.func 115) #[] #[]])], M [(1, .string (ByteArray.mk #[109, 111, 118, 101])), (2, .string (ByteArray.mk #[108, 105, 110, 101])), (4, .string (ByteArray.mk #[98, 114, 101, 97, 107])), (3, .string (ByteArray.mk #[115, 116, 97, 109, 112]))], M [(1, .string (ByteArray.mk #[109])), (2, .string (ByteArray.mk #[108])), (4, .string (ByteArray.mk #[98])), (3, .string (ByteArray.mk #[115]))]] [(1, .agg #[.map (some (w.heap.size + 1)), Value.func (Fn.func 112) #[] #[], Value.func (Fn.func 114) #[] #[]])] 2 (.agg #[.map (some (w.heap.size + 2)), Value.func (Fn.func 113) #[] #[], Value.func (Fn.func 115) #[] #[]]) rfl rfl rfl]
  go_wp2
  rw [aAy]
  go_wp2
  rw [mS Tryz.underlying108 Tryz.underlying3 w _ [M [(1, .agg #[.map (some (w.heap.size + 1)), Value.func (Fn.func 112) #[] #[], Value.func (Fn.func 114) #[] #[]]), (2, .agg #[.map (some (w.heap.size + 2)), Value.func (Fn.func 113) #[] #[], Value.func (Fn.func 115) #[] #[]])], M [(1, .string (ByteArray.mk #[109, 111, 118, 101])), (2, .string (ByteArray.mk #[108, 105, 110, 101])), (4, .string (ByteArray.mk #[98, 114, 101, 97, 107])), (3, .string (ByteArray.mk #[115, 116, 97, 109, 112]))], M [(1, .string (ByteArray.mk #[109])), (2, .string (ByteArray.mk #[108])), (4, .string (ByteArray.mk #[98])), (3, .string (ByteArray.mk #[115]))], M [(5, .string (ByteArray.mk #[109, 111, 117, 110, 116]))]] 3 [] 5 (.string (ByteArray.mk #[109, 111, 117, 110, 116])) rfl rfl rfl]
  go_wp2
  rw [mS Tryz.underlying108 Tryz.underlying3 w _ [M [(1, .agg #[.map (some (w.heap.size + 1)), Value.func (Fn.func 112) #[] #[], Value.func (Fn.func 114) #[] #[]]), (2, .agg #[.map (some (w.heap.size + 2)), Value.func (Fn.func 113) #[] #[], Value.func (Fn.func 115) #[] #[]])], M [(1, .string (ByteArray.mk #[109, 111, 118, 101])), (2, .string (ByteArray.mk #[108, 105, 110, 101])), (4, .string (ByteArray.mk #[98, 114, 101, 97, 107])), (3, .string (ByteArray.mk #[115, 116, 97, 109, 112]))], M [(1, .string (ByteArray.mk #[109])), (2, .string (ByteArray.mk #[108])), (4, .string (ByteArray.mk #[98])), (3, .string (ByteArray.mk #[115]))], M [(5, .string (ByteArray.mk #[109, 111, 117, 110, 116])), (6, .string (ByteArray.mk #[98, 101, 110, 100]))]] 3 [(5, .string (ByteArray.mk #[109, 111, 117, 110, 116]))] 6 (.string (ByteArray.mk #[98, 101, 110, 100])) rfl rfl rfl]
  go_wp2
  rw [aEh Tryz.underlying114 Tryz.underlying3 w _ [M [(1, .agg #[.map (some (w.heap.size + 1)), Value.func (Fn.func 112) #[] #[], Value.func (Fn.func 114) #[] #[]]), (2, .agg #[.map (some (w.heap.size + 2)), Value.func (Fn.func 113) #[] #[], Value.func (Fn.func 115) #[] #[]]), (3, .agg #[.map (some (w.heap.size + 3)), Value.func (Fn.func 116) #[] #[], Value.func (Fn.func 117) #[] #[]])], M [(1, .string (ByteArray.mk #[109, 111, 118, 101])), (2, .string (ByteArray.mk #[108, 105, 110, 101])), (4, .string (ByteArray.mk #[98, 114, 101, 97, 107])), (3, .string (ByteArray.mk #[115, 116, 97, 109, 112]))], M [(1, .string (ByteArray.mk #[109])), (2, .string (ByteArray.mk #[108])), (4, .string (ByteArray.mk #[98])), (3, .string (ByteArray.mk #[115]))], M [(5, .string (ByteArray.mk #[109, 111, 117, 110, 116])), (6, .string (ByteArray.mk #[98, 101, 110, 100]))]] [(1, .agg #[.map (some (w.heap.size + 1)), Value.func (Fn.func 112) #[] #[], Value.func (Fn.func 114) #[] #[]]), (2, .agg #[.map (some (w.heap.size + 2)), Value.func (Fn.func 113) #[] #[], Value.func (Fn.func 115) #[] #[]])] 3 (.agg #[.map (some (w.heap.size + 3)), Value.func (Fn.func 116) #[] #[], Value.func (Fn.func 117) #[] #[]]) rfl rfl rfl]
  go_wp2
  go_ret
  exact ⟨rfl, rfl⟩
 rw [← aUV w] at key
 exact key
end Go.Proofs.YteffpgliiilnjaaGreatDoor
namespace Go.Proofs.YteffpgliiilnjaaGreatDoor
open Go.Vm Go.RowKit
set_option linter.unusedVariables false
structure Seg where
 X1 : Int
 Y1 : Int
 X2 : Int
 Y2 : Int
instance : Inhabited Seg := ⟨⟨default, default, default, default⟩⟩
structure aQ where
 X : Int
 Y : Int
 W : Int
 H : Int
instance : Inhabited aQ := ⟨⟨default, default, default, default⟩⟩
structure Opn where
 Kind : Int
 X : Int
 Y : Int
 W : Int
 H : Int
 N : Int
instance : Inhabited Opn := ⟨⟨default, default, default, default, default, default⟩⟩
structure nL where
 Flange : Int
 Parent : Int
 qr : Int
 qt : Int
 qu : Int
 qv : Int
 Angle : Int
 Deduct : Int
instance : Inhabited nL := ⟨⟨default, default, default, default, default, default, default, default⟩⟩
structure kQ where
 Origin_X : Int
 Origin_Y : Int
 Origin_Z : Int
 U_X : Int
 U_Y : Int
 U_Z : Int
 V_X : Int
 V_Y : Int
 V_Z : Int
 W : Int
 H : Int
instance : Inhabited kQ := ⟨⟨default, default, default, default, default, default, default, default, default, default, default⟩⟩
structure Frm where
 qw : Int
 qx : Int
 qy : Int
 qz : Int
 qaa : Int
 qab : Int
 qac : Int
 qad : Int
 qae : Int
 Face_W : Int
 Face_H : Int
 begin_X : Int
 begin_Y : Int
 u_X : Int
 u_Y : Int
 v_X : Int
 v_Y : Int
 ahead : Int
instance : Inhabited Frm := ⟨⟨default, default, default, default, default, default, default, default, default, default, default, default, default, default, default, default, default, default⟩⟩
structure Frr where
 qaf : Int
 qag : Int
 qah : Int
 qai : Int
 qaj : Int
 qak : Int
 qal : Int
 qam : Int
 qan : Int
 face_W : Int
 face_H : Int
 at_x : Int
 at_y : Int
 u_x : Int
 u_y : Int
 v_x : Int
 v_y : Int
 lift : Int
instance : Inhabited Frr := ⟨⟨default, default, default, default, default, default, default, default, default, default, default, default, default, default, default, default, default, default⟩⟩
structure Cel where
 i : Int
 j : Int
instance : Inhabited Cel := ⟨⟨default, default⟩⟩
structure Par where
 e0 : Int
 e1 : Int
instance : Inhabited Par := ⟨⟨default, default⟩⟩
inductive Knd where
 | seg
 | rect
 | op
 | int
 | str
 | rects
 | bool
 | bend
 | face
 | frm
 | frr
 | bools
 | ints
 | cell
 | par
def Knd.num : Knd → Nat
 | .seg => 0
 | .rect => 1
 | .op => 2
 | .int => 3
 | .str => 4
 | .rects => 5
 | .bool => 6
 | .bend => 7
 | .face => 8
 | .frm => 9
 | .frr => 10
 | .bools => 11
 | .ints => 12
 | .cell => 13
 | .par => 14
theorem Knd.aRc : ∀ {a b : Knd}, a.num = b.num → a = b := by
 intro a b h; cases a <;> cases b <;> first | rfl | cases h
def Knd.deq (a b : Knd) : Decidable (a = b) := if h : a.num = b.num then .isTrue (Knd.aRc h) else .isFalse fun e => h (by rw [e])
inductive Opq where
 | bld
 | dead
abbrev UU : dS where
 τ := Knd
 deq := Knd.deq
 T := fun k => match k with
  | .seg => Seg
  | .rect => aQ
  | .op => Opn
  | .int => Int
  | .str => ByteArray
  | .rects => List aQ
  | .bool => Bool
  | .bend => nL
  | .face => kQ
  | .frm => Frm
  | .frr => Frr
  | .bools => List Bool
  | .ints => zzI
  | .cell => Cel
  | .par => Par
 ety := fun k => match k with
  | .seg => 43
  | .rect => 65
  | .op => 40
  | .int => 3
  | .str => 9
  | .rects => 22
  | .bool => 4
  | .bend => 174
  | .face => 88
  | .frm => 92
  | .frr => 99
  | .bools => 198
  | .ints => 124
  | .cell => 202
  | .par => 239
 size := fun k => match k with
  | .seg => 4
  | .rect => 4
  | .op => 6
  | .int => 1
  | .str => 1
  | .rects => 1
  | .bool => 1
  | .bend => 8
  | .face => 11
  | .frm => 18
  | .frr => 18
  | .bools => 1
  | .ints => 1
  | .cell => 2
  | .par => 2
 unsl := fun t t1 => match t, t1 with
  | .rects, .rect => fun ys => some ys
  | .bools, .bool => fun ys => some ys
  | .ints, .int => fun ys => some ys
  | _, _ => fun _ => none
 κ := Opq
 K := fun k => match k with
  | .bld => ByteArray
  | .dead => Unit
 φ := Frz
def uC : (t : Knd) → UU.T t → List (aA UU)
 | .seg, x => [.int .i64 (Seg.X1 x), .int .i64 (Seg.Y1 x), .int .i64 (Seg.X2 x), .int .i64 (Seg.Y2 x)]
 | .rect, x => [.int .i64 (aQ.X x), .int .i64 (aQ.Y x), .int .i64 (aQ.W x), .int .i64 (aQ.H x)]
 | .op, x => [.int .i64 (Opn.Kind x), .int .i64 (Opn.X x), .int .i64 (Opn.Y x), .int .i64 (Opn.W x), .int .i64 (Opn.H x), .int .i64 (Opn.N x)]
 | .int, x => [.int .i64 x]
 | .str, x => [.str x]
 | .rects, x => [.sl .rect x]
 | .bool, x => [.bool x]
 | .bend, x => [.int .i64 (nL.Flange x), .int .i64 (nL.Parent x), .int .i64 (nL.qr x), .int .i64 (nL.qt x), .int .i64 (nL.qu x), .int .i64 (nL.qv x), .int .i64 (nL.Angle x), .int .i64 (nL.Deduct x)]
 | .face, x => [.int .i64 (kQ.Origin_X x), .int .i64 (kQ.Origin_Y x), .int .i64 (kQ.Origin_Z x), .int .i64 (kQ.U_X x), .int .i64 (kQ.U_Y x), .int .i64 (kQ.U_Z x), .int .i64 (kQ.V_X x), .int .i64 (kQ.V_Y x), .int .i64 (kQ.V_Z x), .int .i64 (kQ.W x), .int .i64 (kQ.H x)]
 | .frm, x => [.int .i64 (Frm.qw x), .int .i64 (Frm.qx x), .int .i64 (Frm.qy x), .int .i64 (Frm.qz x), .int .i64 (Frm.qaa x), .int .i64 (Frm.qab x), .int .i64 (Frm.qac x), .int .i64 (Frm.qad x), .int .i64 (Frm.qae x), .int .i64 (Frm.Face_W x), .int .i64 (Frm.Face_H x), .int .i64 (Frm.begin_X x), .int .i64 (Frm.begin_Y x), .int .i64 (Frm.u_X x), .int .i64 (Frm.u_Y x), .int .i64 (Frm.v_X x), .int .i64 (Frm.v_Y x), .int .i64 (Frm.ahead x)]
 | .frr, x => [.int .i64 (Frr.qaf x), .int .i64 (Frr.qag x), .int .i64 (Frr.qah x), .int .i64 (Frr.qai x), .int .i64 (Frr.qaj x), .int .i64 (Frr.qak x), .int .i64 (Frr.qal x), .int .i64 (Frr.qam x), .int .i64 (Frr.qan x), .int .i64 (Frr.face_W x), .int .i64 (Frr.face_H x), .int .i64 (Frr.at_x x), .int .i64 (Frr.at_y x), .int .i64 (Frr.u_x x), .int .i64 (Frr.u_y x), .int .i64 (Frr.v_x x), .int .i64 (Frr.v_y x), .int .i64 (Frr.lift x)]
 | .bools, x => [.sl .bool x]
 | .ints, x => [.sl .int x]
 | .cell, x => [.int .i64 (Cel.i x), .int .i64 (Cel.j x)]
 | .par, x => [.int .i64 (Par.e0 x), .int .i64 (Par.e1 x)]
def zV (t : Knd) : aA UU → Option (List (UU.T t))
 | .sl t2 ys => jJ (U := UU) t t2 ys
 | .nils => some []
 | _ => none
theorem aDL {t : Knd} {y : aA UU} {zs : List (UU.T t)} (h : zV t y = some zs) : y = .sl t zs ∨ (y = .nils ∧ zs = []) := by
 unfold zV at h
 split at h
 ·rename_i t2 ys
  obtain ⟨rfl, rfl⟩ := kC h
  exact .inl rfl
 ·cases h
  exact .inr ⟨rfl, rfl⟩
 ·cases h
def w6 : (t : Knd) → List (aA UU) → Option (UU.T t)
 | .seg, [.int .i64 x0, .int .i64 x1, .int .i64 x2, .int .i64 x3] => some ⟨x0, x1, x2, x3⟩
 | .rect, [.int .i64 x0, .int .i64 x1, .int .i64 x2, .int .i64 x3] => some ⟨x0, x1, x2, x3⟩
 | .op, [.int .i64 x0, .int .i64 x1, .int .i64 x2, .int .i64 x3, .int .i64 x4, .int .i64 x5] => some ⟨x0, x1, x2, x3, x4, x5⟩
 | .int, [.int .i64 x0] => some x0
 | .str, [.str x0] => some x0
 | .rects, [y0] => (zV .rect y0).bind fun z0 => some z0
 | .bool, [.bool x0] => some x0
 | .bend, [.int .i64 x0, .int .i64 x1, .int .i64 x2, .int .i64 x3, .int .i64 x4, .int .i64 x5, .int .i64 x6, .int .i64 x7] => some ⟨x0, x1, x2, x3, x4, x5, x6, x7⟩
 | .face, [.int .i64 x0, .int .i64 x1, .int .i64 x2, .int .i64 x3, .int .i64 x4, .int .i64 x5, .int .i64 x6, .int .i64 x7, .int .i64 x8, .int .i64 x9, .int .i64 yX] => some ⟨x0, x1, x2, x3, x4, x5, x6, x7, x8, x9, yX⟩
 | .frm, [.int .i64 x0, .int .i64 x1, .int .i64 x2, .int .i64 x3, .int .i64 x4, .int .i64 x5, .int .i64 x6, .int .i64 x7, .int .i64 x8, .int .i64 x9, .int .i64 yX, .int .i64 x11, .int .i64 x12, .int .i64 x13, .int .i64 x14, .int .i64 x15, .int .i64 x16, .int .i64 x17] => some ⟨x0, x1, x2, x3, x4, x5, x6, x7, x8, x9, yX, x11, x12, x13, x14, x15, x16, x17⟩
 | .frr, [.int .i64 x0, .int .i64 x1, .int .i64 x2, .int .i64 x3, .int .i64 x4, .int .i64 x5, .int .i64 x6, .int .i64 x7, .int .i64 x8, .int .i64 x9, .int .i64 yX, .int .i64 x11, .int .i64 x12, .int .i64 x13, .int .i64 x14, .int .i64 x15, .int .i64 x16, .int .i64 x17] => some ⟨x0, x1, x2, x3, x4, x5, x6, x7, x8, x9, yX, x11, x12, x13, x14, x15, x16, x17⟩
 | .bools, [y0] => (zV .bool y0).bind fun z0 => some z0
 | .ints, [y0] => (zV .int y0).bind fun z0 => some z0
 | .cell, [.int .i64 x0, .int .i64 x1] => some ⟨x0, x1⟩
 | .par, [.int .i64 x0, .int .i64 x1] => some ⟨x0, x1⟩
 | _, _ => none
theorem aXv : ∀ t l x, w6 t l = some x → l.length = UU.size t := by
 intro t l x h
 unfold w6 at h
 split at h <;> first | rfl | cases h
theorem aXU : ∀ t x, ∀ c ∈ uC t x, c.flat = true ∧ c.l8 = true := by
 intro t x c hc
 cases t <;> (unfold uC at hc; simp only [List.mem_cons, List.not_mem_nil, or_false] at hc; first | (rcases hc with rfl | hc <;> first | exact ⟨rfl, rfl⟩ | skip) | (subst hc; exact ⟨rfl, rfl⟩))
 all_goals (repeat (first | (subst hc; exact ⟨rfl, rfl⟩) | (rcases hc with rfl | hc; exact ⟨rfl, rfl⟩)))
theorem aXw : ∀ t l x, w6 t l = some x → ∀ k, k < UU.size t → (l.getD k .any = (uC t x).getD k .any ∨ (l.getD k .any = .nils ∧ ∃ t', (uC t x).getD k .any = .sl t' [])) := by
 intro t l x h k hk
 unfold w6 at h
 split at h
 ·cases h; exact .inl rfl
 ·cases h; exact .inl rfl
 ·cases h; exact .inl rfl
 ·cases h; exact .inl rfl
 ·cases h; exact .inl rfl
 ·simp only [Option.bind_eq_some_iff] at h
  obtain ⟨z0, h0, h⟩ := h
  cases h
  rcases Nat.lt_or_ge k 1 with dU | dU
  ·have hh : k = 0 := by omega
   rcases hh with rfl
   ·rcases aDL h0 with rfl | ⟨rfl, rfl⟩
    ·exact .inl rfl
    ·exact .inr ⟨rfl, _, rfl⟩
  ·exact absurd hk (Nat.not_lt.2 dU)
 ·cases h; exact .inl rfl
 ·cases h; exact .inl rfl
 ·cases h; exact .inl rfl
 ·cases h; exact .inl rfl
 ·cases h; exact .inl rfl
 ·simp only [Option.bind_eq_some_iff] at h
  obtain ⟨z0, h0, h⟩ := h
  cases h
  rcases Nat.lt_or_ge k 1 with dU | dU
  ·have hh : k = 0 := by omega
   rcases hh with rfl
   ·rcases aDL h0 with rfl | ⟨rfl, rfl⟩
    ·exact .inl rfl
    ·exact .inr ⟨rfl, _, rfl⟩
  ·exact absurd hk (Nat.not_lt.2 dU)
 ·simp only [Option.bind_eq_some_iff] at h
  obtain ⟨z0, h0, h⟩ := h
  cases h
  rcases Nat.lt_or_ge k 1 with dU | dU
  ·have hh : k = 0 := by omega
   rcases hh with rfl
   ·rcases aDL h0 with rfl | ⟨rfl, rfl⟩
    ·exact .inl rfl
    ·exact .inr ⟨rfl, _, rfl⟩
  ·exact absurd hk (Nat.not_lt.2 dU)
 ·cases h; exact .inl rfl
 ·cases h; exact .inl rfl
 ·cases h
def aXp : (t : Knd) → UU.T t
 | .seg => (default : Seg)
 | .rect => (default : aQ)
 | .op => (default : Opn)
 | .int => (default : Int)
 | .str => (default : ByteArray)
 | .rects => (default : List aQ)
 | .bool => (default : Bool)
 | .bend => (default : nL)
 | .face => (default : kQ)
 | .frm => (default : Frm)
 | .frr => (default : Frr)
 | .bools => (default : List Bool)
 | .ints => (default : zzI)
 | .cell => (default : Cel)
 | .par => (default : Par)
def aJD : Knd → Bool
 | .seg => true
 | .rect => true
 | .op => true
 | .int => true
 | .str => true
 | .rects => false
 | .bool => true
 | .bend => true
 | .face => true
 | .frm => true
 | .frr => true
 | .bools => false
 | .ints => false
 | .cell => true
 | .par => true
theorem aQB : ∀ t x, aJD t = true → ∀ c ∈ uC t x, c.pure = true := by
 intro t x h c hc
 cases t <;> (first | (cases h; done) | skip) <;> (unfold uC at hc; simp only [List.mem_cons, List.not_mem_nil, or_false] at hc)
 all_goals (repeat (first | (subst hc; rfl) | (rcases hc with rfl | hc; rfl)))
def aTu : Knd → Option Knd
 | .seg => none
 | .rect => none
 | .op => none
 | .int => none
 | .str => none
 | .rects => some .rect
 | .bool => none
 | .bend => none
 | .face => none
 | .frm => none
 | .frr => none
 | .bools => some .bool
 | .ints => some .int
 | .cell => none
 | .par => none
def EE : Enc UU where
 enc := uC
 dec := w6
 dflt := aXp
 enc_len := fun t x => by cases t <;> rfl
 enc_flat := aXU
 dec_len := aXv
 dec_enc := aXw
 pos := fun t => by cases t <;> decide
 plain := aJD
 plain_ok := aQB
 unsl_ok := fun t t1 ys y h => by cases t <;> cases t1 <;> first | (cases h; done) | (cases h; rfl)
 inner := aTu
 inner_ok := fun t t1 h x => by cases t <;> first | (cases h; done) | (cases h; exact ⟨_, rfl⟩)
 rep := fun k => match k with
  | .bld => pB
  | .dead => fun _ => a8
 rep_val := fun k d w base p f h => by
  cases k with
  | bld => exact aP5 h
  | dead => exact aP3 h
 rep_mem := fun k d w base p f i g u h hu => by
  cases k with
  | bld => exact aIt h hu
  | dead => exact h.2 i g u hu
 rep_mono := fun k d w w' base p f h h1 h2 => by
  cases k with
  | bld => exact aP6 h h1 h2
  | dead => exact aP4 h h1 h2
 frep := wY
 frep_mono := aU0
 frep_cell := aU1
def aXV (t : TypeId) : Option Knd :=
 cond (Nat.beq t 43) (some .seg) (cond (Nat.beq t 65) (some .rect) (cond (Nat.beq t 40) (some .op) (cond (Nat.beq t 3) (some .int) (cond (Nat.beq t 9) (some .str) (cond (Nat.beq t 22) (some .rects) (cond (Nat.beq t 4) (some .bool) (cond (Nat.beq t 174) (some .bend) (cond (Nat.beq t 88) (some .face) (cond (Nat.beq t 92) (some .frm) (cond (Nat.beq t 99) (some .frr) (cond (Nat.beq t 198) (some .bools) (cond (Nat.beq t 124) (some .ints) (cond (Nat.beq t 202) (some .cell) (cond (Nat.beq t 239) (some .par) (none)))))))))))))))
def aDe (t : TypeId) : Bool := Nat.beq t 40 || Nat.beq t 43 || Nat.beq t 65
theorem aQA : ∀ t, aDe t = true → aMj Tryz.prog t := by
 intro t h
 unfold aDe at h
 try simp only [Bool.or_eq_true] at h
 rcases h with (h | h) | h
 all_goals (obtain rfl := Nat.eq_of_beq_eq_true h; exact ⟨by kernel_rfl, by kernel_rfl, by kernel_rfl⟩)
def aDn (t : TypeId) : Option ((k : UU.κ) × UU.K k) := cond (Nat.beq t 119) (some ⟨.bld, ByteArray.empty⟩) none
theorem aQZ : ∀ t x, aDn t = some x → ∀ (w : World) (base : Nat), base ≤ w.heap.size → ∃ w', (Instr.alloc t true (.tuple #[])).run Tryz.prog w = .ok (.pointer (some ⟨w.heap.size, 0, none⟩)) w' ∧ Below w.heap.size w w' ∧
  EE.rep x.1 x.2 w' base (some (0, .pointer (some ⟨w.heap.size, 0, none⟩))) (fun _ => none) := by
 intro t x h w base hb
 unfold aDn at h
 cases ht : Nat.beq t 119 with
 | false => rw [ht] at h; cases h
 | true =>
  rw [ht] at h
  cases h
  obtain rfl := Nat.eq_of_beq_eq_true ht
  exact aZU w base hb
def u7 (n : Int) : aA UU := cond (n == 1) (.agg [.frz .W1, .fn 112 [], .fn 114 []]) (cond (n == 2) (.agg [.frz .W2, .fn 113 [], .fn 115 []]) (cond (n == 3) (.agg [.frz .W3, .fn 116 [], .fn 117 []]) (.agg [.raw (Value.map none), .raw Value.nilFunc, .raw Value.nilFunc])))
def aLa : Frz → TypeId → Option (Int → aA UU × aA UU)
 | .W1, t => cond (Nat.beq t 108) (some fun n => (.str (eI gQ n), .bool (fO [1, 2, 4, 3] n))) none
 | .W2, t => cond (Nat.beq t 108) (some fun n => (.str (eI gJ n), .bool (fO [1, 2, 4, 3] n))) none
 | .W3, t => cond (Nat.beq t 108) (some fun n => (.str (eI gP n), .bool (fO [5, 6] n))) none
 | .D, t => cond (Nat.beq t 114) (some fun n => (u7 n, .bool (fO [1, 2, 3] n))) none
theorem aGM {l : List (Int × ByteArray)} {w : World} {st : Nat → Prop} {v : Value} (n : Int) (h : isMap (strs l) w st v) : (Instr.lookup 108 v (.int .i64 n) true).run Tryz.prog w = .ok (.tuple #[.string (eI l n), .bool (fO ((strs l).map (·.1)) n)]) w := by
 obtain ⟨b, rfl, _, hb⟩ := h
 have hz : (zeroValue 9).run Tryz.prog w = .ok (.string ByteArray.empty) w := Tryz.zeroValue9 w
 rw [aKY Tryz.underlying108 Tryz.underlying3 hz hb n, aIb]
theorem xA {w : World} {st : Nat → Prop} (f : Nat) : Rel EE w (fun _ => none) st (.fn f [] : aA UU) (fv f) := .fn f [] #[] rfl (fun k hk => absurd hk (by simp))
theorem aA6 {w : World} {st : Nat → Prop} {v : Value} (k : Frz) (h : wY k w st v) : Rel EE w (fun _ => none) st (.frz k : aA UU) v := Rel.frz (U := UU) (E := EE) k v h
theorem aCG {w : World} {ρ : Own} {st : Nat → Prop} {x y z : aA UU} {a b c : Value} (hx : Rel EE w ρ st x a) (hy : Rel EE w ρ st y b) (hz : Rel EE w ρ st z c) : Rel EE w ρ st (.agg [x, y, z]) (.agg #[a, b, c]) :=
 .agg _ _ rfl fun k hk => match k, hk with
  | 0, _ => hx
  | 1, _ => hy
  | 2, _ => hz
theorem aUZ : ∀ k t f, aLa k t = some f → ∀ (w : World) (st : Nat → Prop) (v : Value) (n : Int), EE.frep k w st v → ∃ u b, (Instr.lookup t v (.int .i64 n) true).run Tryz.prog w = .ok (.tuple #[u, b]) w ∧ Rel EE w (fun _ => none) st (f n).1 u ∧ Rel EE w (fun _ => none) st (f n).2 b ∧ (f n).1.s8 = true ∧ (f n).2.flat = true := by
 intro k t f h w st v n hv
 cases k with
 | D =>
  obtain ⟨ht, h⟩ := cA h
  obtain rfl := Nat.eq_of_beq_eq_true ht
  cases h
  obtain ⟨v1, v2, v3, h1, h2, h3, b, rfl, _, hb⟩ := hv
  have hz : (zeroValue 112).run Tryz.prog w = .ok (.agg #[.map none, .nilFunc, .nilFunc]) w := Tryz.zeroValue112 w
  refine ⟨_, _, aKY Tryz.underlying114 Tryz.underlying3 hz hb n, ?_, .bool _, ?_, rfl⟩
  ·show Rel EE w _ st (u7 n) (oY _ (lD v1 v2 v3) n)
   unfold u7 lD
   simp only [oY]
   cases n == 1
   ·cases n == 2
    ·cases n == 3
     ·exact aCG (.raw _) (.raw _) (.raw _)
     ·exact aCG (aA6 .W3 h3) (xA _) (xA _)
    ·exact aCG (aA6 .W2 h2) (xA _) (xA _)
   ·exact aCG (aA6 .W1 h1) (xA _) (xA _)
  ·show (u7 n).s8 = true
   unfold u7
   cases n == 1 <;> cases n == 2 <;> cases n == 3 <;> rfl
 | W1 =>
  obtain ⟨ht, h⟩ := cA h
  obtain rfl := Nat.eq_of_beq_eq_true ht
  cases h
  exact ⟨_, _, aGM n hv, .str _, .bool _, rfl, rfl⟩
 | W2 =>
  obtain ⟨ht, h⟩ := cA h
  obtain rfl := Nat.eq_of_beq_eq_true ht
  cases h
  exact ⟨_, _, aGM n hv, .str _, .bool _, rfl, rfl⟩
 | W3 =>
  obtain ⟨ht, h⟩ := cA h
  obtain rfl := Nat.eq_of_beq_eq_true ht
  cases h
  exact ⟨_, _, aGM n hv, .str _, .bool _, rfl, rfl⟩
noncomputable def jP : Cfg UU := { P := Tryz.prog, E := EE, elt := aXV, sum := fun _ => none, plain := aDe, plainOK := aQA, deep := false, inv := inv1, invOK := aTn, frzOf := aLa, frzOK := aUZ, opqOf := aDn, opqOK := aQZ }
theorem aPH : cE jP := ⟨fun f m h => (by cases h), fun f m h => (by cases h)⟩
noncomputable def aMl : Cfg UU := aMe (aMd jP)
theorem aOy : cE aMl := aPK (sVN aPH rfl rfl rfl rfl fun _ h => h.1.1) rfl rfl rfl rfl
end Go.Proofs.YteffpgliiilnjaaGreatDoor
set_option linter.unusedVariables false
namespace Go.Proofs
open Go.Shelf Go.RowKit
theorem aMY : (Tryz.prog.info? 119).map (·.size) = some 2 := by kernel_rfl
theorem aZV : liesAt Tryz.prog Tryz.prog.depth 119 (2 / Tryz.prog.cellsOf 119) 0 119 1 = true := by kernel_rfl
theorem aZZ : (Tryz.prog.info? 5).map (fun i => (i.zero, i.size, i.bytes)) = some (some (.int .u8 0), 1, 1) := by kernel_rfl
set_option maxHeartbeats 1000000 in
set_option maxRecDepth 100000 in
theorem aZX (b : Nat) (w : World) (h0 : w.cell? ⟨b, 0, none⟩ = some (.pointer (some ⟨b, 0, none⟩))) :
  Calls Tryz.prog 118 #[.pointer (some ⟨b, 0, none⟩)] w fun e w' => e = .returned (.tuple #[]) ∧ w' = w := by
 obtain ⟨j, hj, _⟩ := Option.map_eq_some_iff.1 aMY
 go_enter Tryz.func118, Tryz.ntmps118
 go_wp2
 rw [Lib.run_neq_ptr_same w _ Tryz.underlying116 hj]
 go_wp2
 go_end0
 exact ⟨rfl, rfl⟩
set_option maxHeartbeats 1000000 in
set_option maxRecDepth 100000 in
theorem aZW (b : Nat) (w : World) (h0 : w.cell? ⟨b, 0, none⟩ = some (.pointer none)) (hsh : w.shape? b = some (119, 2)) (hfz : w.frozen? ⟨b, 0, none⟩ = false) :
  Calls Tryz.prog 118 #[.pointer (some ⟨b, 0, none⟩)] w fun e w' => e = .returned (.tuple #[]) ∧ w' = w.setCell ⟨b, 0, none⟩ (.pointer (some ⟨b, 0, none⟩)) := by
 obtain ⟨j, hj, hjs⟩ := Option.map_eq_some_iff.1 aMY
 go_enter Tryz.func118, Tryz.ntmps118
 go_wp2
 rw [Lib.run_to_unsafe w ⟨b, 0, none⟩ Tryz.underlying116 Tryz.underlying205 hj (by rw [hjs]; decide) hsh (Nat.zero_lt_succ 1)]
 simp only [Result.andThen]
 rw [Oper.upon_value]
 go_wp2
 rw [run_callFunc_extern Tryz.func157 (by kernel_rfl) (by kernel_rfl) (by kernel_rfl) (e := Extern.AbiNoEscape.same) (by kernel_rfl)]
 rw [Lib.run_noEscape]
 simp only [Result.andThen]
 rw [Oper.upon_value]
 go_wp2
 rw [Lib.run_from_unsafe w ⟨b, 0, none⟩ Tryz.underlying205 Tryz.underlying116 hj hsh aZV]
 simp only [Result.andThen]
 rw [Oper.upon_value]
 go_wp2
 go_end0
 exact ⟨rfl, rfl⟩
theorem aZY (B b : Nat) (v : Value) (bs : List Value) (w : World) (h : yW 119 5 B b v bs w) :
  Calls Tryz.prog 118 #[.pointer (some ⟨b, 0, none⟩)] w fun e w' => e = .returned (.tuple #[]) ∧ yW 119 5 B b v bs w' ∧ Below B w w' ∧ w'.heap.size = w.heap.size ∧ ∀ k, k ≠ b → w'.heap[k]? = w.heap[k]? := by
 obtain ⟨hB, ⟨q, hq, hb⟩, hown, hne, hnil⟩ := h
 have c0 : w.cell? ⟨b, 0, none⟩ = some q := by rw [Lib.cell_of_heap hb]; rfl
 rcases hq with rfl | rfl
 ·refine (aZW b w c0 (by simp [World.shape?, hb]) (Lib.frozen_of_heap hb 0)).mono ?_
  rintro e w' ⟨rfl, rfl⟩
  have hk : ∀ k, k ≠ b → (w.setCell ⟨b, 0, none⟩ (.pointer (some ⟨b, 0, none⟩))).heap[k]? = w.heap[k]? := fun k hk => Below.heap_setCell _ _ _ _ hk
  refine ⟨rfl, ⟨hB, ⟨_, .inr rfl, ?_⟩, ?_, hne, hnil⟩, (Below.refl B w).setCell (p := ⟨b, 0, none⟩) hB _, by simp [World.setCell], hk⟩
  ·simp [World.setCell, Array.getElem?_modify, hb]
  ·refine hown.kept (row := some b) ⟨rfl, rfl, rfl, by simp [World.setCell], fun k _ hk' => hk k (fun e => hk' (by rw [e]))⟩ (Or.inr hne)
 ·refine (aZX b w c0).mono ?_
  rintro e w' ⟨rfl, rfl⟩
  exact ⟨rfl, ⟨hB, ⟨_, .inr rfl, hb⟩, hown, hne, hnil⟩, Below.refl B _, rfl, fun _ _ => rfl⟩
set_option maxHeartbeats 2000000 in
set_option maxRecDepth 100000 in
theorem aZR (B b : Nat) (v : Value) (bs : List Value) (s : ByteArray) (w : World) (h : yW 119 5 B b v bs w) (hs : 1 ≤ s.size) (hlen : bs.length + s.size ≤ 140737488355328) (hBw : B ≤ w.heap.size) :
  Calls Tryz.prog 54 #[.pointer (some ⟨b, 0, none⟩), .string s] w fun e w' => e = .returned (.tuple #[.int .i64 s.size, .nilIface]) ∧
   ∃ v', yW 119 5 B b v' (bs ++ Lib.strCells s) w' ∧ Below B w w' ∧ (∀ k, k < w.heap.size → k ≠ b → v.ownBlock ≠ some k → w'.heap[k]? = w.heap[k]?) ∧
    ∀ k, v'.ownBlock = some k → v.ownBlock = some k ∨ w.heap.size ≤ k := by
 obtain ⟨i0, hi, o4, o0, wQ⟩ := info_parts aZZ
 go_enter Tryz.func54, Tryz.ntmps54
 go_wp2_with (go_at_call 118; refine (aZY B b v bs _ h).mono ?_)
 rintro e w1 ⟨rfl, h1, cH, hsz1, qY⟩
 obtain ⟨hB, ⟨q, hq, hbk⟩, hown, hne, hnil⟩ := h1
 have c0 : w1.cell? ⟨b, 0, none⟩ = some q := by rw [Lib.cell_of_heap hbk]; rfl
 have c1 : w1.cell? ⟨b, 1, none⟩ = some v := by rw [Lib.cell_of_heap hbk]; rfl
 go_wp2_with (at_builtin; refine aZS rfl _ _ 117 9 rfl B 5 i0 Tryz.underlying117 Tryz.underlying9 hi o4 o0 wQ _ _ _ rfl hown s rfl ?c4 ?c5 ?_)
 case c4 => omega
 case c5 => omega
 intro v' w2 hown' hgrow hnil' hnew
 have hlt : b < w1.heap.size := (Array.getElem?_eq_some_iff.1 hbk).1
 have dH : w2.heap[b]? = some (.cells #[q, v] 119 (0, 0)) := by
  rw [hgrow.block b hlt (fun e => hne e.symm)]
  exact hbk
 have d0 : w2.cell? ⟨b, 0, none⟩ = some q := by rw [Lib.cell_of_heap dH]; rfl
 have d1 : w2.cell? ⟨b, 1, none⟩ = some v := by rw [Lib.cell_of_heap dH]; rfl
 have f1 : w2.frozen? ⟨b, 1, none⟩ = false := Lib.frozen_of_heap dH 1
 obtain ⟨ao, n', cap, rfl⟩ : ∃ ao n' cap, v' = .slice ao n' cap := by
  rcases hown'.2 with ⟨hv, _⟩ | ⟨g, cap, cur, hv, _⟩
  ·exact ⟨_, _, _, hv⟩
  ·exact ⟨_, _, _, hv⟩
 go_wp2
 go_ret2
 have hs0 : Lib.strCells s ≠ [] := fun e => by
  have := Lib.strCells_length s
  rw [e, List.length_nil] at this
  omega
 have dU : ∀ (x : Value) k, k ≠ b → (w2.setCell ⟨b, 1, none⟩ x).heap[k]? = w2.heap[k]? := fun x k hk => Below.heap_setCell _ _ _ _ hk
 have hne' : Value.ownBlock (.slice ao n' cap) ≠ some b := Lib.ownBlock_ne hown' dH (by decide)
 refine ⟨rfl, .slice ao n' cap, ⟨hB, ⟨q, hq, ?_⟩, ?_, hne', ?_⟩, ?_, fun k hk hkb hkv => ?_, fun k hk => ?_⟩
 ·simp [World.setCell, Array.getElem?_modify, dH]
 ·refine World.ownsRow.kept (row := some b) (w := w2) (by simpa [Lib.strCells_length] using hown') ⟨rfl, rfl, rfl, by simp [World.setCell], fun k _ hk' => dU _ k (fun e => hk' (by rw [e]))⟩ (Or.inr hne')
 ·constructor
  ·intro e
   have h1 : s = ByteArray.empty := (hnil'.1 e).2
   rw [h1] at hs
   exact absurd hs (by decide)
  ·intro e
   exact absurd (List.append_eq_nil_iff.1 e).2 hs0
 ·exact (cH.grown hgrow (by rw [hsz1]; exact hBw) (fun k hk => (hown.lt k hk).1)).setCell (p := ⟨b, 1, none⟩) hB _
 ·rw [dU _ k hkb, hgrow.block k (by omega) (fun e => hkv e.symm)]
  exact qY k hkb
 ·rcases hnew k hk with h1 | h1
  ·exact .inl h1
  ·exact .inr (by omega)
end Go.Proofs
namespace Go.Proofs.YteffpgliiilnjaaGreatDoor
open Go.Vm Go.RowKit
set_option linter.unusedVariables false
noncomputable section
def fF (n : Int) : ByteArray := ⟨(Lib.itoa n).toArray⟩
def eY (s : ByteArray) : Int × Bool := match Lib.atoiAll s.data.toList with
 | .ok v => (v, true)
 | .range => (Lib.atoiSat s.data.toList, false)
 | _ => (0, false)
def dO (s sep : ByteArray) : List ByteArray := Lib.splitB sep 0 (Lib.countB s sep) s
open Go.Sort in
theorem aZ2 {B : Nat} {w0 w : World} {os : Array Obj} (h : Below B w0 w) (hB : B ≤ w.heap.size) : Below B w0 (grow w os) :=
 ⟨h.os, h.tape, h.output, by show w0.heap.size ≤ (w.heap ++ os).size; have := h.size; simp; omega, fun k hk => by
  show (w.heap ++ os)[k]? = _
  rw [Array.getElem?_append_left (by omega)]
  exact h.block k hk⟩
theorem y8 {E : Enc UU} {w : World} {N : Nat → Prop} {x : aA UU} {args : Array Value} (h : pR E w N [x] args) : ∃ a, args = #[a] ∧ Rel E w dG (eC N w) x a := by
 obtain ⟨h1, h2⟩ := h
 have e0 := h2 0 (by simp)
 obtain ⟨l⟩ := args
 match l, h1 with
 | [a], _ => exact ⟨a, rfl, e0⟩
theorem aM5 {E : Enc UU} {w : World} {N : Nat → Prop} {x y : aA UU} {args : Array Value} (h : pR E w N [x, y] args) : ∃ a b, args = #[a, b] ∧ Rel E w dG (eC N w) x a ∧ Rel E w dG (eC N w) y b := by
 obtain ⟨h1, h2⟩ := h
 have e0 := h2 0 (by simp)
 have e1 := h2 1 (by simp)
 obtain ⟨l⟩ := args
 match l, h1 with
 | [a, b], _ => exact ⟨a, b, rfl, e0, e1⟩
theorem aAT {E : Enc UU} {w : World} {ρ : Own} {st : Nat → Prop} {x y : aA UU} {a b : Value} (hx : Rel E w ρ st x a) (hy : Rel E w ρ st y b) : Rel E w ρ st (.tup [x, y]) (.tuple #[a, b]) :=
 .tup _ _ rfl fun k hk => match k, hk with
  | 0, _ => hx
  | 1, _ => hy
def aE3 : Model UU
 | [.int .i64 n] => some ([-9223372036854775808 ≤ n ∧ n ≤ 9223372036854775807], .str (fF n))
 | _ => none
def bAH : Model UU
 | [.str s] => some ([s.size ≤ 10000], .tup [.int .i64 (eY s).1, .ifc (eY s).2])
 | _ => none
theorem aPL {C : Cfg UU} (hs : cE C) (hP : C.P = Tryz.prog) (hI : ∀ w, C.inv w → inv1 w) : cE (C.add 55 aE3) := by
 refine hs.put ⟨fun args w => by rw [hP]; exact gV (fn := Tryz.f55) Tryz.func55 (by kernel_rfl) rfl args w, ?_⟩
 intro N w args xs cs r hinv hN hargs hm hc
 unfold aE3 at hm
 split at hm
 ·rename_i n
  cases hm
  obtain ⟨a, rfl, ha⟩ := y8 hargs
  cases ha
  rw [hP]
  refine (Tryz.strconv_Itoa n hc.1 hc.2 w (hI w hinv).2).mono ?_
  rintro e w' ⟨rfl, k, os, rfl⟩
  exact ⟨_, rfl, fZ.of rfl rfl (.str _), aZ2 (below_drewN (Below.refl _ _) k) (Nat.le_refl _)⟩
 ·cases hm
def aE2 : Model UU
 | [.str s, .str p] => some ([s.size ≤ 10000 ∧ 1 ≤ p.size], .new .str (dO s p))
 | _ => none
theorem aPJ {C : Cfg UU} (hE : C.E = EE) (hs : cE C) (hP : C.P = Tryz.prog) (hI : ∀ w, C.inv w → inv1 w) : cE (C.add 122 aE2) := by
 refine hs.put ⟨fun args w => by rw [hP]; exact gV (fn := Tryz.f122) Tryz.func122 (by kernel_rfl) rfl args w, ?_⟩
 intro N w args xs cs r hinv hN hargs hm hc
 unfold aE2 at hm
 split at hm
 ·rename_i s p
  cases hm
  obtain ⟨jF, kO⟩ : s.size ≤ 10000 ∧ 1 ≤ p.size := hc
  obtain ⟨a, b, rfl, ha, hb⟩ := aM5 hargs
  cases ha
  cases hb
  rw [hP, hE]
  obtain ⟨m, hw⟩ := (hI w hinv).1.1
  refine (Tryz.strings_Split s p m w (by omega) hw kO).mono ?_
  rintro e w' ⟨rfl, rfl⟩
  have hlen : (dO s p).length = Lib.countB s p + 1 := Lib.splitB_all p kO 0 _ s rfl
  have hle := Lib.countB_le p kO s.size s (Nat.le_refl _)
  have hown : (w.alloc (.cells ((dO s p).map Value.string).toArray 9)).ownsRow w.heap.size 9 1 (.slice (some ⟨w.heap.size, 0, none⟩) (Lib.countB s p + 1) (Lib.countB s p + 1)) (dO s p).length ((dO s p).map Value.string) := by
   refine ⟨by simp, .inr ⟨w.heap.size, _, _, by rw [hlen], Nat.le_refl _, heap_alloc_new w _, by omega, by unfold maxLen; omega, by simp [hlen], by rw [Nat.mul_one]; exact List.take_of_length_le (by simp)⟩⟩
  refine ⟨_, rfl, ⟨fun k => if k = .ob 0 then some (0, .slice (some ⟨w.heap.size, 0, none⟩) (Lib.countB s p + 1) (Lib.countB s p + 1)) else none, .osl 0 0 _ (by simp) (by intro a e; cases e), fun k x hk => ?_, fun k g u hk => ?_, fun i j g g' u u' b hi hj hne => ?_⟩, ⟨rfl, rfl, rfl, by simp, fun k hk => heap_alloc_old w _ hk⟩⟩
  ·cases k with
   | zero =>
    have : (⟨false, .str, dO s p⟩ : dP UU) = x := by simpa [aA.news, eJ, eR] using hk
    subst this
    refine ⟨_, _, by simp, (by intro a e; cases e), hown, fun i hi k hk' => ?_⟩
    have gC : k = 0 := by
     have : k < 1 := hk'
     omega
    subst gC
    show Rel EE _ _ _ (.str (dO s p)[i]) _
    have e1 : ((dO s p).map Value.string).getD (i * 1 + 0) undef = .string (dO s p)[i] := by simp [hi]
    rw [show UU.size .str = 1 from rfl, e1]
    exact .str _
   | succ k => simp [aA.news, eJ, eR] at hk
  ·by_cases gC : k = .ob 0
   ·subst gC
    exact ⟨⟨false, .str, dO s p⟩, by simp [aA.news, eJ, eR, Name.id], fun _ => ⟨0, rfl⟩⟩
   ·simp [gC] at hk
  ·by_cases o6 : i = .ob 0
   ·by_cases kY : j = .ob 0
    ·exact absurd (o6.trans kY.symm) hne
    ·simp [kY] at hj
   ·simp [o6] at hi
 ·cases hm
def aG0 : aAI UU
 | [.ptr 0 0, .str s], .opq .bld b => some ([1 ≤ s.size ∧ b.size + s.size ≤ 140737488355328], .tup [.int .i64 s.size, .raw .nilIface], .opq .bld (b ++ s))
 | _, _ => none
def aG1 : aAI UU
 | [.ptr 0 0], .opq .bld b => some ([], .str b, .opq .dead ())
 | _, _ => none
theorem aN5 (b s : ByteArray) : Lib.strCells (b ++ s) = Lib.strCells b ++ Lib.strCells s := by
 unfold Lib.strCells
 rw [ByteArray.data_append, Array.toList_append, List.map_append]
def xF (p : Nat × Value) (m : Option (Nat × Value)) : Own := fun nm => match nm with
 | .ob i => if i = 0 then some p else none
 | .mem i j => if i = 0 ∧ j = 0 then m else none
theorem aX0 {C : Cfg UU} (hP : C.P = Tryz.prog) (hE : C.E = EE) (w0 : World) : xM C 54 aG0 w0 := by
 refine ⟨fun args w => by rw [hP]; exact gV (fn := Tryz.f54) Tryz.func54 (by kernel_rfl) rfl args w, fun st ρ w args k0 xs ob ob' cs r hb hst hdom hsep hob hsz hrel kZ hm hc jF hpr hown => ?_⟩
 unfold aG0 at hm
 split at hm
 ·rename_i s b
  cases hm
  obtain rfl : 0 = k0 := by cases hown; rfl
  obtain ⟨h1, h2⟩ : 1 ≤ s.size ∧ b.size + s.size ≤ 140737488355328 := hc
  rw [hE] at hob hrel ⊢
  obtain ⟨b0, v, hp, hbld, hf1, mT⟩ : pB b w w0.heap.size (ρ (.ob 0)) (fun j => ρ (.mem 0 j)) := hob
  have e0 := hrel 0 (by simp)
  have e1 := hrel 1 (by simp)
  obtain ⟨l⟩ := args
  match l, hsz with
  | [x, y], _ =>
   simp at e0 e1
   cases e1
   have hx : x = .pointer (some ⟨b0, 0, none⟩) := by
    cases e0 with
    | ptr _ _ q hq =>
     rw [hp] at hq
     cases hq
     rfl
   subst hx
   rw [hP]
   have hbase : w0.heap.size ≤ w.heap.size := hb.size
   refine (aZR w0.heap.size b0 v (Lib.strCells b) s w hbld h1 (by rw [Lib.strCells_length]; exact h2) hbase).mono ?_
   rintro e w' ⟨rfl, v', hbld', hbel, hsame, hnew⟩
   have hnp : ∀ a, v' ≠ .pointer a := aBy hbld'.2.2.1
   have hnp0 : ∀ a, v ≠ .pointer a := aBy hbld.2.2.1
   let g : Nat := match ρ (.mem 0 0) with
    | some q => q.1 + 1
    | none => 0
   have nm1 : ∀ (nm : Name) q u, xF (0, .pointer (some ⟨b0, 0, none⟩)) (some (g, v')) nm = some (q, u) → (nm = .ob 0 ∧ (q, u) = (0, .pointer (some ⟨b0, 0, none⟩))) ∨ (nm = .mem 0 0 ∧ (q, u) = (g, v')) := fun nm q u h => by
    cases nm with
    | ob i =>
     simp only [xF] at h
     split at h
     ·rename_i e; subst e; cases h; exact .inl ⟨rfl, rfl⟩
     ·cases h
    | mem i j =>
     simp only [xF] at h
     split at h
     ·rename_i e; obtain ⟨rfl, rfl⟩ := e; cases h; exact .inr ⟨rfl, rfl⟩
     ·cases h
   have hblk : ∀ k, v'.ownBlock = some k → blk v' = some k := fun k h => by rw [← gT hnp]; exact h
   have hold : ∀ k, v.ownBlock = some k → ∃ q, ρ (.mem 0 0) = some (q, v) := fun k h => by
    rcases mT with ⟨rfl, _⟩ | ⟨q, h0⟩
    ·cases h
    ·exact ⟨q, h0⟩
   refine ⟨_, xF (0, .pointer (some ⟨b0, 0, none⟩)) (some (g, v')), rfl, ⟨fun _ => aAT (.int _ _) (.raw _), fun h => by cases h⟩, ?_, fun nm q u h => ?_, ⟨fun nm hn => ?_, fun nm q u hn h => ?_, hbel, fun k hk hne => ?_, fun nm q u k hn h hbl => ?_, fun nm nm' q q' u u' k hn hn' h h' hne hbl => ?_⟩⟩
   ·refine (show pB (b ++ s) w' w0.heap.size (xF (0, .pointer (some ⟨b0, 0, none⟩)) (some (g, v')) (.ob 0)) (fun j => xF (0, .pointer (some ⟨b0, 0, none⟩)) (some (g, v')) (.mem 0 j)) from ?_)
    exact ⟨b0, v', rfl, by rw [aN5]; exact hbld', fun j => rfl, .inr ⟨g, rfl⟩⟩
   ·refine ⟨?_, fun h => by cases h⟩
    rcases nm1 nm q u h with ⟨rfl, _⟩ | ⟨rfl, _⟩ <;> rfl
   ·cases h : ρ nm with
    | some p => exact absurd (hdom nm p.1 p.2 h).1 hn
    | none =>
     cases nm with
     | ob i => exact if_neg hn
     | mem i j => exact if_neg (fun e => hn e.1)
   ·cases nm with
    | ob i =>
     obtain rfl : i = 0 := hn
     rw [hp] at h
     cases h
     exact .inl rfl
    | mem i j =>
     obtain rfl : i = 0 := hn
     cases j with
     | succ j => rw [show ρ (.mem 0 (j + 1)) = none from hf1 j] at h; cases h
     | zero =>
      refine .inr ⟨?_, g, v', rfl, ?_⟩
      ·rcases mT with ⟨_, h0⟩ | ⟨q0, h0⟩
       ·rw [show ρ (.mem 0 0) = none from h0] at h; cases h
       ·rw [show ρ (.mem 0 0) = some (q0, v) from h0] at h
        cases h
        exact hnp0
      ·show q < match ρ (.mem 0 0) with
        | some q => q.1 + 1
        | none => 0
       rw [h]
       exact Nat.lt_succ_self q
   ·refine hsame k hk (fun e => ?_) (fun e => ?_)
    ·subst e
     exact hne (.ob 0) _ _ rfl hp rfl
    ·obtain ⟨q, h0⟩ := hold k e
     exact hne (.mem 0 0) _ _ rfl h0 (by rw [← gT hnp0]; exact e)
   ·rcases nm1 nm q u h with ⟨rfl, h3⟩ | ⟨rfl, h3⟩
    ·cases h3
     exact .inl ⟨.ob 0, 0, _, rfl, hp, hbl⟩
    ·cases h3
     rcases hnew k (by rw [gT hnp]; exact hbl) with h4 | h4
     ·obtain ⟨q, h0⟩ := hold k h4
      exact .inl ⟨.mem 0 0, q, v, rfl, h0, by rw [← gT hnp0]; exact h4⟩
     ·exact .inr h4
   ·have hd : v'.ownBlock ≠ some b0 := hbld'.2.2.2.1
    rcases nm1 nm q u h with ⟨rfl, h3⟩ | ⟨rfl, h3⟩ <;> rcases nm1 nm' q' u' h' with ⟨rfl, h4⟩ | ⟨rfl, h4⟩
    ·exact absurd rfl hne
    ·cases h3
     cases h4
     simp only [blk, Option.some.injEq] at hbl
     subst hbl
     rw [← gT hnp]
     exact hd
    ·cases h3
     cases h4
     rw [← gT hnp] at hbl
     intro e
     simp only [blk, Option.some.injEq] at e
     subst e
     exact hd hbl
    ·exact absurd rfl hne
 ·cases hm
theorem aX1 {C : Cfg UU} (hP : C.P = Tryz.prog) (hE : C.E = EE) (w0 : World) : xM C 57 aG1 w0 := by
 refine ⟨fun args w => by rw [hP]; exact gV (fn := Tryz.f57) Tryz.func57 (by kernel_rfl) rfl args w, fun st ρ w args k0 xs ob ob' cs r hb hst hdom hsep hob hsz hrel kZ hm hc jF hpr hown => ?_⟩
 unfold aG1 at hm
 split at hm
 ·rename_i b
  cases hm
  obtain rfl : 0 = k0 := by cases hown; rfl
  rw [hE] at hob hrel ⊢
  obtain ⟨b0, v, hp, hbld, hf1, mT⟩ : pB b w w0.heap.size (ρ (.ob 0)) (fun j => ρ (.mem 0 j)) := hob
  have e0 := hrel 0 (by simp)
  obtain ⟨l⟩ := args
  match l, hsz with
  | [x], _ =>
   simp at e0
   have hx : x = .pointer (some ⟨b0, 0, none⟩) := by
    cases e0 with
    | ptr _ _ q hq =>
     rw [hp] at hq
     cases hq
     rfl
   subst hx
   rw [hP]
   have hnp0 : ∀ a, v ≠ .pointer a := aBy hbld.2.2.1
   have call : Calls Tryz.prog 57 #[.pointer (some ⟨b0, 0, none⟩)] w fun e w' => e = .returned (.string ⟨b.data.toList.toArray⟩) ∧ Below w0.heap.size w w' ∧ w'.heap.size = w.heap.size ∧ ∀ k, k < w.heap.size → v.ownBlock ≠ some k → w'.heap[k]? = w.heap[k]? :=
    aZT Tryz.aTU Tryz.bAG w0.heap.size b0 v b.data.toList w hbld
   refine call.mono ?_
   rintro e w' ⟨rfl, hbel, hsz', hsame⟩
   have hv : (⟨b.data.toList.toArray⟩ : ByteArray) = b := by simp
   rw [hv]
   refine ⟨_, ρ, rfl, ⟨fun _ => .str _, fun h => by cases h⟩, ?_, fun nm q u h => ⟨(hdom nm q u h).1, fun h => by cases h⟩, ⟨fun _ _ => rfl, fun _ _ _ _ h => .inl h, hbel, fun k hk hne => hsame k hk (fun e => ?_), fun nm q u k hn h hbl => .inl ⟨nm, q, u, hn, h, hbl⟩, fun nm nm' q q' u u' k _ _ h h' hne hbl => hsep _ _ _ _ _ _ k h h' hne hbl⟩⟩
   ·refine (show a8 w' w0.heap.size (ρ (.ob 0)) (fun j => ρ (.mem 0 j)) from ⟨⟨b0, hp, hbld.1, ?_⟩, fun i g u hu => ?_⟩)
    ·obtain ⟨q, _, h2⟩ := hbld.2.1
     have := (Array.getElem?_eq_some_iff.1 h2).1
     omega
    ·have := aIt (s := b) (w := w) (base := w0.heap.size) (p := ρ (.ob 0)) (f := fun j => ρ (.mem 0 j)) ⟨b0, v, hp, hbld, hf1, mT⟩ hu
     refine ⟨this.1, fun k hk => ?_⟩
     have := this.2 k hk
     omega
   ·rcases mT with ⟨rfl, _⟩ | ⟨q, h0⟩
    ·cases e
    ·exact hne (.mem 0 0) q v rfl h0 (by rw [← gT hnp0]; exact e)
 ·cases hm
def yS : Cfg UU := (((aMl.add 55 aE3).add 122 aE2).aAA 54 aG0).aAA 57 aG1
theorem aOz : cE yS := by
 have h1 := aPL aOy rfl fun _ h => h
 have h4 := aPJ rfl h1 rfl fun _ h => h
 exact (h4.aD3 fun w0 _ => aX0 rfl rfl w0).aD3 fun w0 _ => aX1 rfl rfl w0
end
end Go.Proofs.YteffpgliiilnjaaGreatDoor
namespace Go.Proofs.YteffpgliiilnjaaGreatDoor
open Go.Vm Go.ChangeShapes Go.WideShapes Go.ChangeAt Go.RowKit Go.Joins
set_option linter.unusedVariables false
set_option maxRecDepth 100000
noncomputable section
def aUD (n : Int) : Prop := IntKind.i64.has n
theorem own : ownKnob Tryz.prog.godebug = none := by kernel_rfl
theorem laidOut : laidOutB Tryz.prog = true := by kernel_rfl
theorem aTp {W : World} (h : W.ShapedOpen Tryz.prog) : wM W := Tryz.aTQ.s1_3 W h
theorem aUX : Tryz.prog.globalNamed "errors.errorType" = some 0 := by kernel_rfl
theorem aPV : (Tryz.prog.cutTypes.find? (·.1 == "internal/reflectlite.rtype")).map (·.2) = some 244 := by kernel_rfl
theorem aQe : ((List.range 353).filter fun t => Tryz.prog.rowNamed t [101, 114, 114, 111, 114]) = [73] := by kernel_rfl
theorem aON : Tryz.prog.types.size = 353 := by kernel_rfl
theorem aPz : (Rows.laid_internal_strconv_uint64pow10 : DataW Unit) = Lib.tabData .u64 Lib.pow10Tab := by kernel_rfl
theorem aVz {W : World} {l : List (String × DataW Unit)} (h : handlesMet Tryz.prog l W) (hm : ("errors.errorType", Rows.laid_errors_errorType) ∈ l) : aLt W := by
 obtain ⟨name, u, ty, e1, e2, e3, e4, e5⟩ := h _ hm
 have en : name = [101, 114, 114, 111, 114] := (Option.some.inj e1).symm
 subst en
 obtain rfl := Option.some.inj (aPV.symm.trans e2)
 have hm : ty ∈ (List.range 353).filter fun t => Tryz.prog.rowNamed t [101, 114, 114, 111, 114] := List.mem_filter.2 ⟨List.mem_range.2 (by rw [← aON]; exact e3), e4⟩
 rw [aQe] at hm
 obtain rfl := List.mem_singleton.1 hm
 have hh : typeHandle Tryz.prog 73 = .pointer (some ⟨9, 73, none⟩) := by kernel_rfl
 rw [hh] at e5
 show W.cell? ⟨0, 0, none⟩ = _
 simpa using World.var?_cell aUX e5 0
theorem aDo {H : Type} {C : Cfg UU} {enc : TypeId × Value → H} {W : World} {t : TypeId} {v : Value} {b0 : Nat} {x : DataW H} {ps : List MemPlace} (hE : ∀ e, C.P.underlying t = some (.slice e) → ∃ τ, C.elt e = some τ ∧ aCL C enc W e τ)
  (hk : qW C.P t = true) (ha : tN C.P t = false) (hok : Value.okWide C.P W .any b0 t v) (h : DataW.Trod enc C.P W 0 (fun _ => true) true t v x ps) (hv : v.cells = #[v]) :
  ∃ a, Fits C t a ∧ Rel C.E W dG (eC (fun _ => False) W) a v := by
 obtain ⟨fuel, hf⟩ := h
 rw [hv] at hf
 refine aTL hE hk (b0 := b0) ?_ hf
 unfold tN at ha
 unfold Value.okWide at hok
 split at hok
 ·rename_i hu
  rw [hu] at ha
  cases ha
 ·rename_i hu
  rw [hu] at ha
  cases ha
 ·exact hok
theorem aZC {P : Program} {W : World} {b0 : Nat} {t : TypeId} {v : Value} {e : TypeId} (hu : P.underlying t = some (.slice e)) (hok : Value.okWide P W .any b0 t v) : v.cells = #[v] := by
 unfold Value.okWide at hok
 rw [hu] at hok
 simp only at hok
 unfold Cell.okWide Cell.ok at hok
 rw [hu] at hok
 cases v <;> first | rfl | (simp at hok)
theorem aQ4 (ns : zzI) (h : ns.length = UU.size .op) : ∃ z : UU.T .op, EE.enc .op z = ns.map (aA.int .i64) := by
 match ns, h with
 | [a, b, c, d, e, f], _ => exact ⟨Opn.mk a b c d e f, rfl⟩
theorem aQ0 {H : Type} {enc : TypeId × Value → H} {W : World} : aCL jP enc W 40 .op := aQ1 5 (by kernel_rfl) (by kernel_rfl) (by kernel_rfl) (by kernel_rfl) aQ4
theorem aUd {t e : TypeId} {τ : Knd} {a : aA UU} (hu : Tryz.prog.underlying t = some (.slice e)) (he : jP.elt e = some τ) (h : Fits jP t a) : ∃ xs : List (UU.T τ), a = .sl τ xs := by
 unfold Fits at h
 rw [show jP.P.underlying t = _ from hu] at h
 obtain ⟨τ', xs, h1, h2, _⟩ := h
 rw [he] at h1
 cases h1
 exact ⟨xs, h2⟩
theorem fits_int {t : TypeId} {a : aA UU} (hu : Tryz.prog.underlying t = some (.int .i64)) (h : Fits jP t a) : ∃ n, a = .int .i64 n ∧ aUD n := by
 unfold Fits at h
 rw [show jP.P.underlying t = _ from hu] at h
 obtain ⟨n, h1, h2⟩ := h
 exact ⟨n, h1, h2⟩
theorem aUc {t : TypeId} {a : aA UU} (hu : Tryz.prog.underlying t = some .string) (h : Fits jP t a) : ∃ s, a = .str s := by
 unfold Fits at h
 rw [show jP.P.underlying t = _ from hu] at h
 obtain ⟨s, h1, _⟩ := h
 exact ⟨s, h1⟩
theorem aQ3 {H : Type} {enc : TypeId × Value → H} {W : World} {base : Nat} {v : Value} {x : DataW H} {ps : List MemPlace} (hok : Value.okWide Tryz.prog W .any base 25 v) (h : DataW.Trod enc Tryz.prog W 0 (fun _ => true) true 25 v x ps) :
  ∃ l : List Opn, Rel EE W dG (eC (fun _ => False) W) (aA.sl .op l : aA UU) v := by
 obtain ⟨a, h1, h2⟩ := aDo (C := jP) (t := 25) (fun e he => by
  rw [show jP.P.underlying 25 = _ from Tryz.underlying25] at he
  cases he
  exact ⟨.op, by kernel_rfl, aQ0⟩) (by kernel_rfl) (by kernel_rfl) hok h (aZC Tryz.underlying25 hok)
 obtain ⟨l, rfl⟩ := aUd Tryz.underlying25 (τ := .op) (by kernel_rfl) h1
 exact ⟨l, h2⟩
noncomputable def aMv (os : Os) : World :=
 let w0 := World.holding Tryz.prog os ⟨#[], #[], []⟩
 { w0 with heap := w0.heap.modify 0 fun
   | .cells _ t frozen => .cells #[.iface 244 (.agg #[.pointer (some ⟨9, 73, none⟩)])] t frozen
   | o => o }
theorem aTZ (P : Program) (w : World) (l : List (String × DataW Unit)) : (w.layVars P l).os = w.os := World.layVars_os _ _ _
theorem aT3 {w0 : World} {laid : List (String × DataW Unit)} (args : Array Value) (hf : w0.layFits Tryz.prog laid [] = true) (hi : w0.layIfaces Tryz.prog laid (w0.layVars Tryz.prog laid) = true) :
  laidMet Tryz.prog laid ((w0.layVars Tryz.prog laid).forCall (fun _ _ => 0) ⟨#[], args, []⟩).memory := by
 have e1 : (laid.filter fun x => (laid.map (·.1)).contains x.1) = laid := List.filter_eq_self.2 fun x hx => List.contains_iff_mem.2 (List.mem_map.2 ⟨x, hx, rfl⟩)
 have e2 : (laid.filter fun x => !(laid.map (·.1)).contains x.1) = [] := List.filter_eq_nil_iff.2 fun x hx => by rw [List.contains_iff_mem.2 (List.mem_map.2 ⟨x, hx, rfl⟩)]; simp
 have h : laidMet Tryz.prog laid (w0.layVars Tryz.prog laid) := laidMet_layVars (w0 := w0) (laid.map (·.1)) [] (by rw [e1]) (by rw [e1]; exact hf) (by rw [e1]; exact hi) (by rw [e2]; exact LaidIn.none)
 exact h.of_heap (by simp [World.memory, World.forCall, Input.heap])
theorem aUP {H : Type} {enc : TypeId × Value → H} {a : Assume} {C : Checked} {os : Os} {f : FuncId} {fn : Func} {s : ChangeSpec} {conds : List PathCond} {apart fresh handsOn again : Bool} {X : World → Array Value → Prop}
  (hX : ∀ (w w' : World) (args : Array Value), w.heap = w'.heap → X w args → X w' args)
  (own : ownKnob C.prog.godebug = none) (started : os.Started) (noInit : C.prog.inits.idxOf? f = none) (hfn : C.prog.funcs[f]? = some fn)
  (witness : ∃ (w : World) (tape : Tape) (i : Input), w.os = os ∧ (w.forCall tape i).Shaped C.prog ∧ i.vars = [] ∧ Input.okWide C.prog (w.forCall tape i) .any w.heap.size f i ∧
   ((s.pre enc C.prog fn conds apart (w.forCall tape i).memory i.args ∧ X (w.forCall tape i).memory i.args) ∧ sizedMet enc C.prog fn (OpenSpec.ofChange s) apart (w.forCall tape i).memory i.args) ∧ a.holds C.prog (lone (Frame.enter C.prog f i.args .normal) [] (w.forCall tape i)))
  (contract : ∀ (W : World) (base : Nat) (args : Array Value) (ds gs : List (DataW H)) (before : List MemPlace),
   (∀ (j : Nat) t v, fn.params[j]? = some t → args[j]? = some v → Value.okWide C.prog W .any base t v) →
   DataW.Whole enc C.prog fn.params.toList s.vars apart W args.toList ds gs before → X W args → W.ShapedOpen C.prog →
   Calls C.prog f args W fun e W' => ∃ v, e = .returned v ∧ s.post enc C.prog fn apart fresh handsOn again W args v W') :
  ReturnsInHanded a C os f .any (fun w args => (s.pre enc C.prog fn conds apart w args ∧ X w args) ∧ sizedMet enc C.prog fn (OpenSpec.ofChange s) apart w args) (s.post enc C.prog fn apart fresh handsOn again) := by
 refine returnsInHanded_of_calls own started noInit witness ?_
 intro w tape i _ hsh _ hok hpre _
 obtain ⟨_, _, _, fn', hfn', _, _, _, _, hval⟩ := hok
 have e : fn' = fn := Option.some.inj (hfn'.symm.trans hfn)
 subst e
 obtain ⟨⟨⟨ds, gs, before, hw, _⟩, hx⟩, _⟩ := hpre
 have hw' := DataW.Whole.of_heap (w' := w.forCall tape i) (by rfl) hw
 refine (contract (w.forCall tape i) w.heap.size i.args ds gs before hval hw' (hX _ _ _ (by rfl) hx) hsh).mono fun e W' ⟨v, he, hp⟩ => ?_
 subst he
 exact ChangeSpec.post_blind hp
end
end Go.Proofs.YteffpgliiilnjaaGreatDoor
namespace Go.Proofs.YteffpgliiilnjaaGreatDoor
open Go.Vm Go.ChangeShapes Go.WideShapes Go.ChangeAt Go.RowKit Go.Joins
set_option linter.unusedVariables false
set_option maxRecDepth 100000
noncomputable section
theorem aZB {P : Program} {W : World} {b0 : Nat} {t : TypeId} {v : Value} {k : IntKind} (hu : P.underlying t = some (.int k)) (hok : Value.okWide P W .any b0 t v) : v.cells = #[v] := by
 unfold Value.okWide at hok
 rw [hu] at hok
 simp only at hok
 unfold Cell.okWide Cell.ok at hok
 rw [hu] at hok
 cases v <;> first | rfl | (simp at hok)
theorem open_int {H : Type} {enc : TypeId × Value → H} {W : World} {base : Nat} {v : Value} {x : DataW H} {ps : List MemPlace} (hok : Value.okWide Tryz.prog W .any base 3 v) (h : DataW.Trod enc Tryz.prog W 0 (fun _ => true) true 3 v x ps) :
  ∃ n : Int, Rel EE W dG (eC (fun _ => False) W) (aA.int .i64 n : aA UU) v := by
 obtain ⟨a, h1, h2⟩ := aDo (C := jP) (t := 3) (fun e he => by
  rw [show jP.P.underlying 3 = _ from Tryz.underlying3] at he
  cases he) (by kernel_rfl) (by kernel_rfl) hok h (aZB Tryz.underlying3 hok)
 obtain ⟨n, rfl, _⟩ := fits_int Tryz.underlying3 h1
 exact ⟨n, h2⟩
theorem aYz {P : Program} {W : World} {b0 : Nat} {t : TypeId} {v : Value} (hu : P.underlying t = some .string) (hok : Value.okWide P W .any b0 t v) : v.cells = #[v] := by
 unfold Value.okWide at hok
 rw [hu] at hok
 simp only at hok
 unfold Cell.okWide Cell.ok at hok
 rw [hu] at hok
 cases v <;> first | rfl | (simp at hok)
theorem aQ2 {H : Type} {enc : TypeId × Value → H} {W : World} {base : Nat} {v : Value} {x : DataW H} {ps : List MemPlace} (hok : Value.okWide Tryz.prog W .any base 9 v) (h : DataW.Trod enc Tryz.prog W 0 (fun _ => true) true 9 v x ps) :
  ∃ n : ByteArray, Rel EE W dG (eC (fun _ => False) W) (aA.str n : aA UU) v := by
 obtain ⟨a, h1, h2⟩ := aDo (C := jP) (t := 9) (fun e he => by
  rw [show jP.P.underlying 9 = _ from Tryz.underlying9] at he
  cases he) (by kernel_rfl) (by kernel_rfl) hok h (aYz Tryz.underlying9 hok)
 obtain ⟨n, rfl⟩ := aUc Tryz.underlying9 h1
 exact ⟨n, h2⟩
theorem aKy {n nm : String} {dd : DataW Unit} {r : List (String × DataW Unit)} {W : World} {g ti : Nat} {ms : Array (String × TypeId)} (hg : Tryz.prog.globalNamed n = some g) (ht : (Tryz.prog.globals[g]?).map (·.type) = some ti) (hi : Tryz.prog.underlying ti = some (.interface ms))
  (h : laidMet Tryz.prog ((n, .iface nm dd) :: r) W) : ∃ te pe, W.cell? ⟨g, 0, none⟩ = some (.iface te pe) := by
 obtain ⟨ps, ⟨g0, t0, fM, f0, p0, q0, hg0, tR, hv0, o7, _, e0⟩, _, hrows⟩ := h
 obtain rfl := Option.some.inj (hg.symm.trans hg0)
 obtain rfl := Option.some.inj (ht.symm.trans tR)
 obtain ⟨f', u, v, e, _, _⟩ := iface_of_trod hi o7
 obtain ⟨l0⟩ := fM
 have e : l0 = [.iface u v] := e
 subst e
 exact ⟨u, v, by simpa using World.var?_cell hg0 hv0 0⟩
end
end Go.Proofs.YteffpgliiilnjaaGreatDoor
namespace Go.Proofs.YteffpgliiilnjaaGreatDoor
open Go.Vm Go.RowKit
set_option linter.unusedVariables false
noncomputable section
def aHV : Nat → Nat → Nat → Canon UU := fun o b r => ⟨[], [], [], [], []⟩
def aF5 (a0 a1 : Int) (Q : Bool → Prop) : Prop := Q ((decide ((aD (0 - a1)) ≤ a0)) && (decide (a0 ≤ a1)))
def aCk (F : Nat) (a0 a1 : Int) (Q : Bool → Prop) : Prop := aF5 a0 a1 Q
def vV (a0 a1 : Int) : Bool := ((decide ((aD (0 - a1)) ≤ a0)) && (decide (a0 ≤ a1)))
theorem aRM (a0 a1 : Int) : ∃ F, ∀ Q : Bool → Prop, Q (vV a0 a1) → aCk F a0 a1 Q := by
 refine ⟨0, fun Q h => ?_⟩
 unfold aCk aF5
 unfold vV at h
 exact h
def aHP : Nat → Nat → Nat → Canon UU := fun o b r => ⟨[], [], [], [], []⟩
def aFW (a0 : Int) (Q : Bool → Prop) : Prop := Q ((decide ((-1048576) ≤ a0)) && (decide (a0 ≤ 1048576)))
def aCd (F : Nat) (a0 : Int) (Q : Bool → Prop) : Prop := aFW a0 Q
def kG (a0 : Int) : Bool := ((decide ((-1048576) ≤ a0)) && (decide (a0 ≤ 1048576)))
theorem aRD (a0 : Int) : ∃ F, ∀ Q : Bool → Prop, Q (kG a0) → aCd F a0 Q := by
 refine ⟨0, fun Q h => ?_⟩
 unfold aCd aFW
 unfold kG at h
 exact h
def aHO : Nat → Nat → Nat → Canon UU := fun o b r => ⟨[], [], [], [], []⟩
def aFV (a0 a1 a2 : Int) (Q : Bool → Prop) : Prop := Q ((decide (a1 ≤ a0)) && (decide (a0 ≤ a2)))
def aCc (F : Nat) (a0 a1 a2 : Int) (Q : Bool → Prop) : Prop := aFV a0 a1 a2 Q
def jS (a0 a1 a2 : Int) : Bool := ((decide (a1 ≤ a0)) && (decide (a0 ≤ a2)))
theorem aRC (a0 a1 a2 : Int) : ∃ F, ∀ Q : Bool → Prop, Q (jS a0 a1 a2) → aCc F a0 a1 a2 Q := by
 refine ⟨0, fun Q h => ?_⟩
 unfold aCc aFV
 unfold jS at h
 exact h
def aHE : Nat → Nat → Nat → Canon UU := fun o b r => ⟨[], [], [], [], []⟩
def aFG (qf qg : ByteArray) (qh qi qc qd : Int) (qb qe : List aQ) (a1 a2 : Int) (Q : Bool → Prop) : Prop := Q ((((decide (0 ≤ a1)) && (decide (a1 ≤ qc))) && (decide (0 ≤ a2))) && (decide (a2 ≤ qd)))
def aC1 (F : Nat) (qf qg : ByteArray) (qh qi qc qd : Int) (qb qe : List aQ) (a1 a2 : Int) (Q : Bool → Prop) : Prop := aFG qf qg qh qi qc qd qb qe a1 a2 Q
def pV (qf qg : ByteArray) (qh qi qc qd : Int) (qb qe : List aQ) (a1 a2 : Int) : Bool := ((((decide (0 ≤ a1)) && (decide (a1 ≤ qc))) && (decide (0 ≤ a2))) && (decide (a2 ≤ qd)))
theorem aQr (qf qg : ByteArray) (qh qi qc qd : Int) (qb qe : List aQ) (a1 a2 : Int) : ∃ F, ∀ Q : Bool → Prop, Q (pV qf qg qh qi qc qd qb qe a1 a2) → aC1 F qf qg qh qi qc qd qb qe a1 a2 Q := by
 refine ⟨0, fun Q h => ?_⟩
 unfold aC1 aFG
 unfold pV at h
 exact h
def aH2 : Nat → Nat → Nat → Canon UU := fun o b r => ⟨[], [], [], [], []⟩
def aFc (a0 a1 a2 a3 : Int) (Q : Int → Int → Int → Int → Prop) : Prop := Q (mi a0 a2) (mi a1 a3) (ma a0 a2) (ma a1 a3)
def aCr (F : Nat) (a0 a1 a2 a3 : Int) (Q : Int → Int → Int → Int → Prop) : Prop := aFc a0 a1 a2 a3 Q
def eU (a0 a1 a2 a3 : Int) : Int × Int × Int × Int := (mi a0 a2, mi a1 a3, ma a0 a2, ma a1 a3)
theorem aRU (a0 a1 a2 a3 : Int) : ∃ F, ∀ Q : Int → Int → Int → Int → Prop, Q ((eU a0 a1 a2 a3).1) ((eU a0 a1 a2 a3).2.1) ((eU a0 a1 a2 a3).2.2.1) ((eU a0 a1 a2 a3).2.2.2) → aCr F a0 a1 a2 a3 Q := by
 refine ⟨0, fun Q h => ?_⟩
 unfold aCr aFc
 unfold eU at h
 exact h
def aHD : Nat → Nat → Nat → Canon UU := fun o b r => ⟨[], [], [], [], []⟩
def aFF (ql qj qm qk bD bC dM dN : Int) (Q : Bool → Prop) : Prop := cond (qj == qk) (Q ((((decide (bC < qj)) && (decide (qj < (aD (bC + dN))))) && (decide (ql < (aD (bD + dM))))) && (decide (bD < qm)))) (Q ((((decide (bD < ql)) && (decide (ql < (aD (bD + dM))))) && (decide (qj < (aD (bC + dN))))) && (decide (bC < qk))))
def aC0 (F : Nat) (ql qj qm qk bD bC dM dN : Int) (Q : Bool → Prop) : Prop := aFF ql qj qm qk bD bC dM dN Q
def zN (ql qj qm qk bD bC dM dN : Int) : Bool := cond (qj == qk) (((((decide (bC < qj)) && (decide (qj < (aD (bC + dN))))) && (decide (ql < (aD (bD + dM))))) && (decide (bD < qm)))) (((((decide (bD < ql)) && (decide (ql < (aD (bD + dM))))) && (decide (qj < (aD (bC + dN))))) && (decide (bC < qk))))
theorem aQq (ql qj qm qk bD bC dM dN : Int) : ∃ F, ∀ Q : Bool → Prop, Q (zN ql qj qm qk bD bC dM dN) → aC0 F ql qj qm qk bD bC dM dN Q := by
 refine ⟨0, fun Q h => ?_⟩
 unfold aC0 aFF
 unfold zN at h
 cases dZ : (qj == qk)
 ·try simp only [dZ, cond_false] at h ⊢
  exact h
 ·try simp only [dZ, cond_true] at h ⊢
  exact h
def aHS : Nat → Nat → Nat → Canon UU := fun o b r => ⟨[], [], [], [], []⟩
def aF2 (ql qj qm qk qo qn qq qp : Int) (Q : Bool → Prop) : Prop := cond (!((qj == qk) == (qn == qp))) (Q (qj == qk)) (cond (qj == qk) (Q ((decide (qj < qn)) || ((qj == qn) && (decide (ql < qo))))) (Q ((decide (ql < qo)) || ((ql == qo) && (decide (qj < qn))))))
def aCh (F : Nat) (ql qj qm qk qo qn qq qp : Int) (Q : Bool → Prop) : Prop := aF2 ql qj qm qk qo qn qq qp Q
def zP (ql qj qm qk qo qn qq qp : Int) : Bool := cond (!((qj == qk) == (qn == qp))) (qj == qk) (cond (qj == qk) (((decide (qj < qn)) || ((qj == qn) && (decide (ql < qo))))) (((decide (ql < qo)) || ((ql == qo) && (decide (qj < qn))))))
theorem aRI (ql qj qm qk qo qn qq qp : Int) : ∃ F, ∀ Q : Bool → Prop, Q (zP ql qj qm qk qo qn qq qp) → aCh F ql qj qm qk qo qn qq qp Q := by
 refine ⟨0, fun Q h => ?_⟩
 unfold aCh aF2
 unfold zP at h
 cases dZ : (!((qj == qk) == (qn == qp)))
 ·try simp only [dZ, cond_false] at h ⊢
  cases cH : (qj == qk)
  ·try simp only [cH, cond_false] at h ⊢
   exact h
  ·try simp only [cH, cond_true] at h ⊢
   exact h
 ·try simp only [dZ, cond_true] at h ⊢
  exact h
def aHW : Nat → Nat → Nat → Canon UU := fun o b r => ⟨[], [], [], [], []⟩
def aF6 (ql qj qm qk qo qn qq qp : Int) (Q : Bool → Prop) : Prop := cond (qj == qk) (Q (((qn == qp) && (qj == qn)) && (decide (qo ≤ qm)))) (Q (((qo == qq) && (ql == qo)) && (decide (qn ≤ qk))))
def aCl (F : Nat) (ql qj qm qk qo qn qq qp : Int) (Q : Bool → Prop) : Prop := aF6 ql qj qm qk qo qn qq qp Q
def zQ (ql qj qm qk qo qn qq qp : Int) : Bool := cond (qj == qk) ((((qn == qp) && (qj == qn)) && (decide (qo ≤ qm)))) ((((qo == qq) && (ql == qo)) && (decide (qn ≤ qk))))
theorem aRN (ql qj qm qk qo qn qq qp : Int) : ∃ F, ∀ Q : Bool → Prop, Q (zQ ql qj qm qk qo qn qq qp) → aCl F ql qj qm qk qo qn qq qp Q := by
 refine ⟨0, fun Q h => ?_⟩
 unfold aCl aF6
 unfold zQ at h
 cases dZ : (qj == qk)
 ·try simp only [dZ, cond_false] at h ⊢
  exact h
 ·try simp only [dZ, cond_true] at h ⊢
  exact h
def aGz : Nat → Nat → Nat → Canon UU := fun o b r => ⟨[], [], [], [], []⟩
def aEv (qa aR aP aO aN aZ bD bC : Int) (Q : Int → Int → Prop) : Prop := cond (qa == 3) (Q bD bC) (Q aR aP)
def aCT (F : Nat) (qa aR aP aO aN aZ bD bC : Int) (Q : Int → Int → Prop) : Prop := aEv qa aR aP aO aN aZ bD bC Q
def kE (qa aR aP aO aN aZ bD bC : Int) : Int × Int := cond (qa == 3) ((bD, bC)) ((aR, aP))
theorem aQi (qa aR aP aO aN aZ bD bC : Int) : ∃ F, ∀ Q : Int → Int → Prop, Q ((kE qa aR aP aO aN aZ bD bC).1) ((kE qa aR aP aO aN aZ bD bC).2) → aCT F qa aR aP aO aN aZ bD bC Q := by
 refine ⟨0, fun Q h => ?_⟩
 unfold aCT aEv
 unfold kE at h
 cases dZ : (qa == 3)
 ·try simp only [dZ, cond_false] at h ⊢
  exact h
 ·try simp only [dZ, cond_true] at h ⊢
  exact h
def aHA : Nat → Nat → Nat → Canon UU := fun o b r => ⟨[], [], [], [], []⟩
def aEw (qa aR aP aO aN aZ : Int) (Q : Bool → Prop) : Prop := cond (qa == 1) (Q (((aO == 0) && (aN == 0)) && (aZ == 0))) (cond (qa == 2) (Q (((aO == 0) && (aN == 0)) && (aZ == 0))) (cond (qa == 4) (Q (((aO == 0) && (aN == 0)) && (aZ == 0))) (cond (qa == 3) (Q (aZ == 0)) (cond (qa == 5) (Q (((aP == 0) && (aO == 0)) && (aN == 0))) (cond (qa == 6) (Q (aN == 0)) (Q false))))))
def aCU (F : Nat) (qa aR aP aO aN aZ : Int) (Q : Bool → Prop) : Prop := aEw qa aR aP aO aN aZ Q
def nR (qa aR aP aO aN aZ : Int) : Bool := cond (qa == 1) ((((aO == 0) && (aN == 0)) && (aZ == 0))) (cond (qa == 2) ((((aO == 0) && (aN == 0)) && (aZ == 0))) (cond (qa == 4) ((((aO == 0) && (aN == 0)) && (aZ == 0))) (cond (qa == 3) (aZ == 0) (cond (qa == 5) ((((aP == 0) && (aO == 0)) && (aN == 0))) (cond (qa == 6) (aN == 0) (false))))))
theorem aQj (qa aR aP aO aN aZ : Int) : ∃ F, ∀ Q : Bool → Prop, Q (nR qa aR aP aO aN aZ) → aCU F qa aR aP aO aN aZ Q := by
 refine ⟨0, fun Q h => ?_⟩
 unfold aCU aEw
 unfold nR at h
 cases dZ : (qa == 1)
 ·try simp only [dZ, cond_false] at h ⊢
  cases cH : (qa == 2)
  ·try simp only [cH, cond_false] at h ⊢
   cases dH : (qa == 4)
   ·try simp only [dH, cond_false] at h ⊢
    cases eG : (qa == 3)
    ·try simp only [eG, cond_false] at h ⊢
     cases hT : (qa == 5)
     ·try simp only [hT, cond_false] at h ⊢
      cases kB : (qa == 6)
      ·try simp only [kB, cond_false] at h ⊢
       exact h
      ·try simp only [kB, cond_true] at h ⊢
       exact h
     ·try simp only [hT, cond_true] at h ⊢
      exact h
    ·try simp only [eG, cond_true] at h ⊢
     exact h
   ·try simp only [dH, cond_true] at h ⊢
    exact h
  ·try simp only [cH, cond_true] at h ⊢
   exact h
 ·try simp only [dZ, cond_true] at h ⊢
  exact h
def aHX : Nat → Nat → Nat → Canon UU := fun o b r => ⟨[], [], [], [], []⟩
def aF7 (qa aR aP aO aN aZ : Int) (Q : Bool → Prop) : Prop := cond (qa == 1) (Q (((aO == 0) && (aN == 0)) && (aZ == 0))) (cond (qa == 2) (Q (((aO == 0) && (aN == 0)) && (aZ == 0))) (cond (qa == 4) (Q (((aO == 0) && (aN == 0)) && (aZ == 0))) (cond (qa == 3) (Q (aZ == 0)) (cond (qa == 5) (Q (((aP == 0) && (aO == 0)) && (aN == 0))) (cond (qa == 6) (Q (aN == 0)) (Q false))))))
def aCm (F : Nat) (qa aR aP aO aN aZ : Int) (Q : Bool → Prop) : Prop := aF7 qa aR aP aO aN aZ Q
def nT (qa aR aP aO aN aZ : Int) : Bool := cond (qa == 1) ((((aO == 0) && (aN == 0)) && (aZ == 0))) (cond (qa == 2) ((((aO == 0) && (aN == 0)) && (aZ == 0))) (cond (qa == 4) ((((aO == 0) && (aN == 0)) && (aZ == 0))) (cond (qa == 3) (aZ == 0) (cond (qa == 5) ((((aP == 0) && (aO == 0)) && (aN == 0))) (cond (qa == 6) (aN == 0) (false))))))
theorem aRO (qa aR aP aO aN aZ : Int) : ∃ F, ∀ Q : Bool → Prop, Q (nT qa aR aP aO aN aZ) → aCm F qa aR aP aO aN aZ Q := by
 refine ⟨0, fun Q h => ?_⟩
 unfold aCm aF7
 unfold nT at h
 cases dZ : (qa == 1)
 ·try simp only [dZ, cond_false] at h ⊢
  cases cH : (qa == 2)
  ·try simp only [cH, cond_false] at h ⊢
   cases dH : (qa == 4)
   ·try simp only [dH, cond_false] at h ⊢
    cases eG : (qa == 3)
    ·try simp only [eG, cond_false] at h ⊢
     cases hT : (qa == 5)
     ·try simp only [hT, cond_false] at h ⊢
      cases kB : (qa == 6)
      ·try simp only [kB, cond_false] at h ⊢
       exact h
      ·try simp only [kB, cond_true] at h ⊢
       exact h
     ·try simp only [hT, cond_true] at h ⊢
      exact h
    ·try simp only [eG, cond_true] at h ⊢
     exact h
   ·try simp only [dH, cond_true] at h ⊢
    exact h
  ·try simp only [cH, cond_true] at h ⊢
   exact h
 ·try simp only [dZ, cond_true] at h ⊢
  exact h
def aHT : Nat → Nat → Nat → Canon UU := fun o b r => ⟨[], [], [], [], []⟩
def aF3 (a0 : Int) (Q : Bool → Prop) : Prop := Q ((decide ((-1048576) ≤ a0)) && (decide (a0 ≤ 1048576)))
def aCi (F : Nat) (a0 : Int) (Q : Bool → Prop) : Prop := aF3 a0 Q
def fV (a0 : Int) : Bool := ((decide ((-1048576) ≤ a0)) && (decide (a0 ≤ 1048576)))
theorem aRJ (a0 : Int) : ∃ F, ∀ Q : Bool → Prop, Q (fV a0) → aCi F a0 Q := by
 refine ⟨0, fun Q h => ?_⟩
 unfold aCi aF3
 unfold fV at h
 exact h
def aH1 : Nat → Nat → Nat → Canon UU := fun o b r => ⟨[], [], [], [], []⟩
def aFb (a0 a1 : Int) (Q : Bool → Prop) : Prop := Q ((a0 == 3) == ((a1 == 5) || (a1 == 6)))
def aCq (F : Nat) (a0 a1 : Int) (Q : Bool → Prop) : Prop := aFb a0 a1 Q
def oU (a0 a1 : Int) : Bool := (a0 == 3) == ((a1 == 5) || (a1 == 6))
theorem aRT (a0 a1 : Int) : ∃ F, ∀ Q : Bool → Prop, Q (oU a0 a1) → aCq F a0 a1 Q := by
 refine ⟨0, fun Q h => ?_⟩
 unfold aCq aFb
 unfold oU at h
 exact h
def aHG : Nat → Nat → Nat → Canon UU := fun o b r => ⟨[], [], [], [], []⟩
def aFI (a0 a1 : Int) (Q : Bool → Prop) : Prop := Q ((((vV a0 1048576) && (decide (0 < a1))) && (decide (a1 ≤ 2097152))) && (decide ((aD (a0 + a1)) ≤ 1048576)))
def aC3 (F : Nat) (a0 a1 : Int) (Q : Bool → Prop) : Prop := aFI a0 a1 Q
def pW (a0 a1 : Int) : Bool := ((((vV a0 1048576) && (decide (0 < a1))) && (decide (a1 ≤ 2097152))) && (decide ((aD (a0 + a1)) ≤ 1048576)))
theorem aQu (a0 a1 : Int) : ∃ F, ∀ Q : Bool → Prop, Q (pW a0 a1) → aC3 F a0 a1 Q := by
 refine ⟨0, fun Q h => ?_⟩
 unfold aC3 aFI
 unfold pW at h
 exact h
def aHC : Nat → Nat → Nat → Canon UU := fun o b r => ⟨[], [], [], [], []⟩
def aFD (aR aP aO aN : Int) (Q : Bool → Prop) : Prop := Q ((pW aR aO) && (pW aP aN))
def aCY (F : Nat) (aR aP aO aN : Int) (Q : Bool → Prop) : Prop := aFD aR aP aO aN Q
def kF (aR aP aO aN : Int) : Bool := ((pW aR aO) && (pW aP aN))
theorem aQo (aR aP aO aN : Int) : ∃ F, ∀ Q : Bool → Prop, Q (kF aR aP aO aN) → aCY F aR aP aO aN Q := by
 refine ⟨0, fun Q h => ?_⟩
 unfold aCY aFD
 unfold kF at h
 exact h
def aHZ : Nat → Nat → Nat → Canon UU := fun o b r => ⟨[], [], [], [], []⟩
def aF9 (aR aP aO aN bD bC dM dN : Int) (Q : Bool → Prop) : Prop := Q ((((((kF aR aP aO aN) && (kF bD bC dM dN)) && (decide (bD ≤ aR))) && (decide ((aD (aR + aO)) ≤ (aD (bD + dM))))) && (decide (bC ≤ aP))) && (decide ((aD (aP + aN)) ≤ (aD (bC + dN)))))
def aCo (F : Nat) (aR aP aO aN bD bC dM dN : Int) (Q : Bool → Prop) : Prop := aF9 aR aP aO aN bD bC dM dN Q
def qA (aR aP aO aN bD bC dM dN : Int) : Bool := ((((((kF aR aP aO aN) && (kF bD bC dM dN)) && (decide (bD ≤ aR))) && (decide ((aD (aR + aO)) ≤ (aD (bD + dM))))) && (decide (bC ≤ aP))) && (decide ((aD (aP + aN)) ≤ (aD (bC + dN)))))
theorem aRQ (aR aP aO aN bD bC dM dN : Int) : ∃ F, ∀ Q : Bool → Prop, Q (qA aR aP aO aN bD bC dM dN) → aCo F aR aP aO aN bD bC dM dN Q := by
 refine ⟨0, fun Q h => ?_⟩
 unfold aCo aF9
 unfold qA at h
 exact h
def aHR : Nat → Nat → Nat → Canon UU := fun o b r => ⟨[], [], [], [], []⟩
def aF0 (a0 a1 : Int) (Q : Bool → Prop) : Prop := Q ((jS a0 1 60) && (jS a1 0 2))
def aCf (F : Nat) (a0 a1 : Int) (Q : Bool → Prop) : Prop := aF0 a0 a1 Q
def sE (a0 a1 : Int) : Bool := ((jS a0 1 60) && (jS a1 0 2))
theorem aRG (a0 a1 : Int) : ∃ F, ∀ Q : Bool → Prop, Q (sE a0 a1) → aCf F a0 a1 Q := by
 refine ⟨0, fun Q h => ?_⟩
 unfold aCf aF0
 unfold sE at h
 exact h
def aHQ : Nat → Nat → Nat → Canon UU := fun o b r => ⟨[], [], [], [], []⟩
def aFZ (qf qg : ByteArray) (qh qi qc qd : Int) (qb qe : List aQ) (a1 : Int) (Q : Int → Int → Int → Int → Bool → Prop) : Prop := Q a1 a1 (aD (qc - (aD (2 * a1)))) (aD (qd - (aD (2 * a1)))) (kF a1 a1 (aD (qc - (aD (2 * a1)))) (aD (qd - (aD (2 * a1)))))
def aCe (F : Nat) (qf qg : ByteArray) (qh qi qc qd : Int) (qb qe : List aQ) (a1 : Int) (Q : Int → Int → Int → Int → Bool → Prop) : Prop := aFZ qf qg qh qi qc qd qb qe a1 Q
def lV (qf qg : ByteArray) (qh qi qc qd : Int) (qb qe : List aQ) (a1 : Int) : Int × Int × Int × Int × Bool := (a1, a1, aD (qc - (aD (2 * a1))), aD (qd - (aD (2 * a1))), (kF a1 a1 (aD (qc - (aD (2 * a1)))) (aD (qd - (aD (2 * a1))))))
theorem aRF (qf qg : ByteArray) (qh qi qc qd : Int) (qb qe : List aQ) (a1 : Int) : ∃ F, ∀ Q : Int → Int → Int → Int → Bool → Prop, Q ((lV qf qg qh qi qc qd qb qe a1).1) ((lV qf qg qh qi qc qd qb qe a1).2.1) ((lV qf qg qh qi qc qd qb qe a1).2.2.1) ((lV qf qg qh qi qc qd qb qe a1).2.2.2.1) ((lV qf qg qh qi qc qd qb qe a1).2.2.2.2) → aCe F qf qg qh qi qc qd qb qe a1 Q := by
 refine ⟨0, fun Q h => ?_⟩
 unfold aCe aFZ
 unfold lV at h
 exact h
def aHY : Nat → Nat → Nat → Canon UU := fun o b r => ⟨[], [], [], [], []⟩
def aF8 (aR aP aO aN : Int) (Q : Bool → Prop) : Prop := cond ((((((!(kG aR)) || (!(kG aP))) || (decide (aO < 1))) || (decide (aN < 1))) || (decide (2097152 < aO))) || (decide (2097152 < aN))) (Q false) (Q ((kG (aD (aR + aO))) && (kG (aD (aP + aN)))))
def aCn (F : Nat) (aR aP aO aN : Int) (Q : Bool → Prop) : Prop := aF8 aR aP aO aN Q
def mL (aR aP aO aN : Int) : Bool := cond ((((((!(kG aR)) || (!(kG aP))) || (decide (aO < 1))) || (decide (aN < 1))) || (decide (2097152 < aO))) || (decide (2097152 < aN))) (false) (((kG (aD (aR + aO))) && (kG (aD (aP + aN)))))
theorem aRP (aR aP aO aN : Int) : ∃ F, ∀ Q : Bool → Prop, Q (mL aR aP aO aN) → aCn F aR aP aO aN Q := by
 refine ⟨0, fun Q h => ?_⟩
 unfold aCn aF8
 unfold mL at h
 cases dZ : (((((((!(kG aR)) || (!(kG aP))) || (decide (aO < 1))) || (decide (aN < 1))) || (decide (2097152 < aO))) || (decide (2097152 < aN))))
 ·try simp only [dZ, cond_false] at h ⊢
  exact h
 ·try simp only [dZ, cond_true] at h ⊢
  exact h
def aH3 : Nat → Nat → Nat → Canon UU := fun o b r => ⟨[], [], [], [], []⟩
def aFd (aR aP aO aN bD bC dM dN : Int) (Q : Bool → Prop) : Prop := Q ((((((mL aR aP aO aN) && (mL bD bC dM dN)) && (decide (bD ≤ aR))) && (decide (bC ≤ aP))) && (decide ((aD (aR + aO)) ≤ (aD (bD + dM))))) && (decide ((aD (aP + aN)) ≤ (aD (bC + dN)))))
def aCs (F : Nat) (aR aP aO aN bD bC dM dN : Int) (Q : Bool → Prop) : Prop := aFd aR aP aO aN bD bC dM dN Q
def nU (aR aP aO aN bD bC dM dN : Int) : Bool := ((((((mL aR aP aO aN) && (mL bD bC dM dN)) && (decide (bD ≤ aR))) && (decide (bC ≤ aP))) && (decide ((aD (aR + aO)) ≤ (aD (bD + dM))))) && (decide ((aD (aP + aN)) ≤ (aD (bC + dN)))))
theorem aRV (aR aP aO aN bD bC dM dN : Int) : ∃ F, ∀ Q : Bool → Prop, Q (nU aR aP aO aN bD bC dM dN) → aCs F aR aP aO aN bD bC dM dN Q := by
 refine ⟨0, fun Q h => ?_⟩
 unfold aCs aFd
 unfold nU at h
 exact h
def rO : Nat → Nat → Nat → Canon UU := fun o b r => cond (Nat.beq b 0) ⟨[2, 5, 6, 7], [], [], [], []⟩ (⟨[], [], [], [], []⟩)
def iP (t2 : Bool) (t5 : List aQ) (t6 t7 : Int) : ASt UU := ⟨fun u => cond (Nat.beq u 2) (.bool t2) (cond (Nat.beq u 5) (.sl .rect t5) (cond (Nat.beq u 6) (.int .i64 t6) (cond (Nat.beq u 7) (.int .i64 t7) (.any)))), fun u => none⟩
def aLM (a0 : List aQ) (Q : Bool → Prop) (i0 : Bool → List aQ → Int → Int → Prop) : Prop := i0 false a0 (a0.length : Int) 0
def aLL (rec : Bool → List aQ → Int → Int → Prop) (x0 : Bool → List aQ → Int → Int → Prop) (x1 : Bool → List aQ → Int → Int → Prop) (t2 : Bool) (t5 : List aQ) (t6 t7 : Int) : Prop := cond (decide (t7 < t6)) ((let e0 := (t5.getD t7.toNat default); ((0 ≤ t7 ∧ t7 < t5.length) ∧ cond (!(kF e0.X e0.Y e0.W e0.H)) (x0 false t5 t6 t7) (rec t2 t5 t6 (aD (t7 + 1)))))) (x1 t2 t5 t6 t7)
def aFY (Q : Bool → Prop) (t2 : Bool) (t5 : List aQ) (t6 t7 : Int) : Prop := Q t2
def aFX (Q : Bool → Prop) (t2 : Bool) (t5 : List aQ) (t6 t7 : Int) : Prop := Q true
def vM (F : Nat) (x0 : Bool → List aQ → Int → Int → Prop) (x1 : Bool → List aQ → Int → Int → Prop) : Nat → Bool → List aQ → Int → Int → Prop
 | 0, _, _, _, _ => False
 | n + 1, t2, t5, t6, t7 => aLL (vM F x0 x1 n) x0 x1 t2 t5 t6 t7
def aEH (F : Nat) (Q : Bool → Prop) (t2 : Bool) (t5 : List aQ) (t6 t7 : Int) : Prop := vM F (fun t2 t5 t6 t7 => aFY Q t2 t5 t6 t7) (fun t2 t5 t6 t7 => aFX Q t2 t5 t6 t7) F t2 t5 t6 t7
def aIC (F : Nat) (a0 : List aQ) (Q : Bool → Prop) : Prop := aLM a0 Q (aEH F Q)
theorem oF {α : Type} [Inhabited α] (l : List α) (i : Nat) (h : i < l.length) : l.drop i = l.getD i default :: l.drop (i + 1) := by
 rw [List.drop_eq_getElem_cons h]
 simp [h]
theorem fU {n : Int} (h1 : -9223372036854775808 ≤ n) (h2 : n ≤ 9223372036854775807) : aD n = n := wrapped h1 h2
theorem lK {i n : Nat} (h : i < n) (hn : n ≤ 1000000000) : aD ((i : Int) + 1) = ((i + 1 : Nat) : Int) := by
 rw [fU (by omega) (by omega)]
 rfl
theorem eN {p : Prop} [Decidable p] (h : p) : decide p = true := decide_eq_true h
theorem eT {p : Prop} [Decidable p] (h : ¬ p) : decide p = false := decide_eq_false h
theorem aZn {α : Type} [Inhabited α] (l : List α) (p : α → Bool) (hl : l.length ≤ 1000000) (W : Nat → Int → Prop) (X Y : Int → Prop)
  (hs : ∀ n i, W (n + 1) i = cond (decide (i < (l.length : Int))) ((0 ≤ i ∧ i < (l.length : Int)) ∧ cond (!(p (l.getD i.toNat default))) (X i) (W n (aD (i + 1)))) (Y i)) : ∀ (n i : Nat), i ≤ l.length → l.length < n + i →
  ((l.drop i).all p = false → ∀ j, X j) → ((l.drop i).all p = true → Y l.length) → W n i := by
 intro n
 induction n with
 | zero => intro i h1 h2; omega
 | succ n ih =>
  intro i h1 h2 hX hY
  rw [hs]
  by_cases h : i < l.length
  ·rw [eN (show (i : Int) < l.length by omega), cond_true]
   refine ⟨⟨by omega, by omega⟩, ?_⟩
   rw [oF l i h, List.all_cons] at hX hY
   rw [Int.toNat_natCast, lK h (by omega)]
   cases hp : p (l.getD i default) with
   | false =>
    rw [hp] at hX
    exact hX rfl _
   | true =>
    rw [hp, Bool.true_and] at hX hY
    exact ih (i + 1) (by omega) (by omega) hX hY
  ·have e : i = l.length := by omega
   subst e
   rw [eT (by omega), cond_false]
   exact hY (by rw [List.drop_length]; rfl)
theorem aCF {α : Type} [Inhabited α] (l : List α) (p : α → Bool) (hl : l.length ≤ 1000000) (W : Nat → Int → Prop) (X Y : Int → Prop)
  (hs : ∀ n i, W (n + 1) i = cond (decide (i < (l.length : Int))) ((0 ≤ i ∧ i < (l.length : Int)) ∧ cond (!(p (l.getD i.toNat default))) (X i) (W n (aD (i + 1)))) (Y i)) (n : Nat) (hn : l.length < n)
  (hX : l.all p = false → ∀ j, X j) (hY : l.all p = true → Y l.length) : W n 0 :=
 aZn l p hl W X Y hs n 0 (by omega) (by omega) hX hY
def aIX (r : aQ) : Bool := kF r.X r.Y r.W r.H
def aAi (l : List aQ) : Prop := l.length ≤ 1000000
def mJ (l : List aQ) : Bool := l.all aIX
theorem aRE (a0 : List aQ) (h : aAi a0) : ∃ F, ∀ Q : Bool → Prop, Q (mJ a0) → aIC F a0 Q := by
 refine ⟨a0.length + 1, fun Q hQ => ?_⟩
 show vM _ _ _ (a0.length + 1) false a0 a0.length 0
 refine aCF a0 aIX h (fun n i => vM (a0.length + 1) _ _ n false a0 a0.length i) _ _ (fun n i => rfl) (a0.length + 1) (by omega) (fun q j => ?_) (fun q => ?_)
 ·unfold mJ at hQ
  rw [q] at hQ
  exact hQ
 ·unfold mJ at hQ
  rw [q] at hQ
  exact hQ
def jM : Nat → Nat → Nat → Canon UU := fun o b r => cond (Nat.beq b 1) ⟨[2, 3, 70, 71, 72], [3], [], [], []⟩ (cond (Nat.beq b 3) ⟨[2, 3, 70, 71, 72, 76, 77, 78], [3], [], [], []⟩ (⟨[], [], [], [], []⟩))
def eM (t2 : Int) (t70 : List (List aQ)) (t71 t72 aY aX aW aV : Int) : ASt UU := ⟨fun u => cond (Nat.beq u 2) (.int .i64 t2) (cond (Nat.beq u 3) (.ptr 3 0) (cond (Nat.beq u 70) (.sl .rects t70) (cond (Nat.beq u 71) (.int .i64 t71) (cond (Nat.beq u 72) (.int .i64 t72) (.any))))), fun u => cond (Nat.beq u 3) (some (.cells [.int .i64 aY, .int .i64 aX, .int .i64 aW, .int .i64 aV])) (none)⟩
def iO (t2 : Int) (t70 : List (List aQ)) (t71 t72 : Int) (t76 : List aQ) (t77 t78 aY aX aW aV : Int) : ASt UU := ⟨fun u => cond (Nat.beq u 2) (.int .i64 t2) (cond (Nat.beq u 3) (.ptr 3 0) (cond (Nat.beq u 70) (.sl .rects t70) (cond (Nat.beq u 71) (.int .i64 t71) (cond (Nat.beq u 72) (.int .i64 t72) (cond (Nat.beq u 76) (.sl .rect t76) (cond (Nat.beq u 77) (.int .i64 t77) (cond (Nat.beq u 78) (.int .i64 t78) (.any)))))))), fun u => cond (Nat.beq u 3) (some (.cells [.int .i64 aY, .int .i64 aX, .int .i64 aW, .int .i64 aV])) (none)⟩
def aFL (qf qg : ByteArray) (qh qi qc qd : Int) (qb qe : List aQ) (Q : Int → Prop) (i0 : Int → List (List aQ) → Int → Int → Int → Int → Int → Int → Prop) : Prop := cond ((!(vn qf)) || (!(vn qg))) (Q 2) (cond (((!(sE qh qi)) || (!(jS qc 1 1048576))) || (!(jS qd 1 1048576))) (Q 1) (cond ((decide (4 < (qb.length : Int))) || (decide (48 < (qe.length : Int)))) (Q 4) ((((aAi qb) ∧ ((!(mJ qb)) = false → aAi qe)) ∧ cond ((!(mJ qb)) || (!(mJ qe))) (Q 1) ((let r0 := (lV qf qg qh qi qc qd qb qe 0); i0 0 ([qb, qe]) (([qb, qe]).length : Int) 0 r0.1 r0.2.1 r0.2.2.1 r0.2.2.2.1))))))
def aLK (rec : Int → List (List aQ) → Int → Int → Int → Int → Int → Int → Prop) (x0 : Int → List (List aQ) → Int → Int → Int → Int → Int → Int → Prop) (x1 : Int → List (List aQ) → Int → Int → Int → Int → Int → Int → Prop) (t2 : Int) (t70 : List (List aQ)) (t71 t72 aY aX aW aV : Int) (i1 : Int → List (List aQ) → Int → Int → List aQ → Int → Int → Int → Int → Int → Int → Prop) : Prop := cond (decide (t72 < t71)) ((let e0 := (t70.getD t72.toNat default); ((0 ≤ t72 ∧ t72 < t70.length) ∧ i1 t2 t70 t71 t72 e0 (e0.length : Int) 0 aY aX aW aV))) (x0 t2 t70 t71 t72 aY aX aW aV)
def aFP (Q : Int → Prop) (t2 : Int) (t70 : List (List aQ)) (t71 t72 aY aX aW aV : Int) : Prop := Q 0
def aFO (Q : Int → Prop) (t2 : Int) (t70 : List (List aQ)) (t71 t72 aY aX aW aV : Int) : Prop := Q t2
def aLJ (rec : Int → List (List aQ) → Int → Int → List aQ → Int → Int → Int → Int → Int → Int → Prop) (x0 : Int → List (List aQ) → Int → Int → List aQ → Int → Int → Int → Int → Int → Int → Prop) (x1 : Int → List (List aQ) → Int → Int → List aQ → Int → Int → Int → Int → Int → Int → Prop) (t2 : Int) (t70 : List (List aQ)) (t71 t72 : Int) (t76 : List aQ) (t77 t78 aY aX aW aV : Int) : Prop := cond (decide (t78 < t77)) ((let e0 := (t76.getD t78.toNat default); ((0 ≤ t78 ∧ t78 < t76.length) ∧ (let r1 := (qA e0.X e0.Y e0.W e0.H aY aX aW aV); cond (!r1) (x0 13 t70 t71 t72 t76 t77 t78 aY aX aW aV) (rec t2 t70 t71 t72 t76 t77 (aD (t78 + 1)) aY aX aW aV))))) (x1 t2 t70 t71 t72 t76 t77 t78 aY aX aW aV)
def aFN (rec : Int → List (List aQ) → Int → Int → Int → Int → Int → Int → Prop) (x0 : Int → List (List aQ) → Int → Int → Int → Int → Int → Int → Prop) (x1 : Int → List (List aQ) → Int → Int → Int → Int → Int → Int → Prop) (t2 : Int) (t70 : List (List aQ)) (t71 t72 : Int) (t76 : List aQ) (t77 t78 aY aX aW aV : Int) : Prop := x1 t2 t70 t71 t72 aY aX aW aV
def aFM (rec : Int → List (List aQ) → Int → Int → Int → Int → Int → Int → Prop) (x0 : Int → List (List aQ) → Int → Int → Int → Int → Int → Int → Prop) (x1 : Int → List (List aQ) → Int → Int → Int → Int → Int → Int → Prop) (t2 : Int) (t70 : List (List aQ)) (t71 t72 : Int) (t76 : List aQ) (t77 t78 aY aX aW aV : Int) : Prop := rec t2 t70 t71 (aD (t72 + 1)) aY aX aW aV
def vL (F : Nat) (x0 : Int → List (List aQ) → Int → Int → List aQ → Int → Int → Int → Int → Int → Int → Prop) (x1 : Int → List (List aQ) → Int → Int → List aQ → Int → Int → Int → Int → Int → Int → Prop) : Nat → Int → List (List aQ) → Int → Int → List aQ → Int → Int → Int → Int → Int → Int → Prop
 | 0, _, _, _, _, _, _, _, _, _, _, _ => False
 | n + 1, t2, t70, t71, t72, t76, t77, t78, aY, aX, aW, aV => aLJ (vL F x0 x1 n) x0 x1 t2 t70 t71 t72 t76 t77 t78 aY aX aW aV
def aEF (F : Nat) (rec : Int → List (List aQ) → Int → Int → Int → Int → Int → Int → Prop) (x0 : Int → List (List aQ) → Int → Int → Int → Int → Int → Int → Prop) (x1 : Int → List (List aQ) → Int → Int → Int → Int → Int → Int → Prop) (t2 : Int) (t70 : List (List aQ)) (t71 t72 : Int) (t76 : List aQ) (t77 t78 aY aX aW aV : Int) : Prop := vL F (fun t2 t70 t71 t72 t76 t77 t78 aY aX aW aV => aFN rec x0 x1 t2 t70 t71 t72 t76 t77 t78 aY aX aW aV) (fun t2 t70 t71 t72 t76 t77 t78 aY aX aW aV => aFM rec x0 x1 t2 t70 t71 t72 t76 t77 t78 aY aX aW aV) F t2 t70 t71 t72 t76 t77 t78 aY aX aW aV
def rX (F : Nat) (x0 : Int → List (List aQ) → Int → Int → Int → Int → Int → Int → Prop) (x1 : Int → List (List aQ) → Int → Int → Int → Int → Int → Int → Prop) : Nat → Int → List (List aQ) → Int → Int → Int → Int → Int → Int → Prop
 | 0, _, _, _, _, _, _, _, _ => False
 | n + 1, t2, t70, t71, t72, aY, aX, aW, aV => aLK (rX F x0 x1 n) x0 x1 t2 t70 t71 t72 aY aX aW aV (aEF F (rX F x0 x1 n) x0 x1)
def aEG (F : Nat) (Q : Int → Prop) (t2 : Int) (t70 : List (List aQ)) (t71 t72 aY aX aW aV : Int) : Prop := rX F (fun t2 t70 t71 t72 aY aX aW aV => aFP Q t2 t70 t71 t72 aY aX aW aV) (fun t2 t70 t71 t72 aY aX aW aV => aFO Q t2 t70 t71 t72 aY aX aW aV) F t2 t70 t71 t72 aY aX aW aV
def aC6 (F : Nat) (qf qg : ByteArray) (qh qi qc qd : Int) (qb qe : List aQ) (Q : Int → Prop) : Prop := aFL qf qg qh qi qc qd qb qe Q (aEG F Q)
def l9 (w h : Int) (r : aQ) : Bool := qA r.X r.Y r.W r.H 0 0 (aD (w - aD (2 * 0))) (aD (h - aD (2 * 0)))
def pX (nm mt : ByteArray) (g gr w h : Int) (cl us : List aQ) : Int :=
 cond ((!(vn nm)) || (!(vn mt))) 2 (cond (((!(sE g gr)) || (!(jS w 1 1048576))) || (!(jS h 1 1048576))) 1 (cond ((decide (4 < (cl.length : Int))) || (decide (48 < (us.length : Int)))) 4
  (cond ((!(mJ cl)) || (!(mJ us))) 1 (cond (cl.all (l9 w h) && us.all (l9 w h)) 0 13))))
theorem aKW (F : Nat) (x0 x1 : Int → List (List aQ) → Int → Int → List aQ → Int → Int → Int → Int → Int → Int → Prop) (t2 t71 t72 w h : Int) (t70 : List (List aQ)) (l : List aQ) (hl : l.length ≤ 1000000) (n : Nat) (hn : l.length < n)
  (hX : l.all (l9 w h) = false → ∀ j, x0 13 t70 t71 t72 l l.length j 0 0 (aD (w - aD (2 * 0))) (aD (h - aD (2 * 0)))) (hY : l.all (l9 w h) = true → x1 t2 t70 t71 t72 l l.length l.length 0 0 (aD (w - aD (2 * 0))) (aD (h - aD (2 * 0)))) :
  vL F x0 x1 n t2 t70 t71 t72 l l.length 0 0 0 (aD (w - aD (2 * 0))) (aD (h - aD (2 * 0))) :=
 aCF l (l9 w h) hl (fun n i => vL F x0 x1 n t2 t70 t71 t72 l l.length i 0 0 (aD (w - aD (2 * 0))) (aD (h - aD (2 * 0)))) _ _ (fun n i => rfl) n hn hX hY
theorem aQx (qf : ByteArray) (qg : ByteArray) (qh : Int) (qi : Int) (qc : Int) (qd : Int) (qb : List aQ) (qe : List aQ) :
  ∃ F, ∀ Q : Int → Prop, Q (pX qf qg qh qi qc qd qb qe) → aC6 F qf qg qh qi qc qd qb qe Q := by
 refine ⟨60, fun Q hQ => ?_⟩
 unfold aC6 aFL
 unfold pX at hQ
 cases h1 : ((!(vn qf)) || (!(vn qg))) with
 | true =>
  rw [h1] at hQ
  exact hQ
 | false =>
 rw [h1] at hQ
 simp only [cond_false] at hQ ⊢
 cases h2 : (((!(sE qh qi)) || (!(jS qc 1 1048576))) || (!(jS qd 1 1048576))) with
 | true =>
  rw [h2] at hQ
  exact hQ
 | false =>
 rw [h2] at hQ
 simp only [cond_false] at hQ ⊢
 cases h3 : ((decide (4 < (qb.length : Int))) || (decide (48 < (qe.length : Int)))) with
 | true =>
  rw [h3] at hQ
  exact hQ
 | false =>
 rw [h3] at hQ
 simp only [cond_false] at hQ ⊢
 simp only [Bool.or_eq_false_iff, decide_eq_false_iff_not] at h3
 have hc : qb.length ≤ 4 := by omega
 have hu : qe.length ≤ 48 := by omega
 refine ⟨⟨show _ ≤ 1000000 by omega, fun _ => show _ ≤ 1000000 by omega⟩, ?_⟩
 cases h4 : ((!(mJ qb)) || (!(mJ qe))) with
 | true =>
  rw [h4] at hQ
  exact hQ
 | false =>
 rw [h4] at hQ
 simp only [cond_false] at hQ ⊢
 show rX 60 _ _ 60 0 [qb, qe] 2 0 0 0 (aD (qc - aD (2 * 0))) (aD (qd - aD (2 * 0)))
 refine ⟨show 0 ≤ (0 : Int) ∧ (0 : Int) < 2 by decide, ?_⟩
 refine aKW 60 _ _ 0 2 0 qc qd _ qb (by omega) 60 (by omega) (fun q j => ?_) (fun q => ?_)
 ·rw [q] at hQ
  exact hQ
 ·rw [q, Bool.true_and] at hQ
  show rX 60 _ _ 59 0 [qb, qe] 2 (aD (0 + 1)) 0 0 (aD (qc - aD (2 * 0))) (aD (qd - aD (2 * 0)))
  refine ⟨show 0 ≤ aD (0 + 1) ∧ aD (0 + 1) < 2 by decide, ?_⟩
  refine aKW 60 _ _ 0 2 (aD (0 + 1)) qc qd _ qe (by omega) 60 (by omega) (fun q j => ?_) (fun q => ?_)
  ·rw [q] at hQ
   exact hQ
  ·rw [q] at hQ
   exact hQ
def rN : Nat → Nat → Nat → Canon UU := fun o b r => cond (Nat.beq b 0) ⟨[2, 15, 16, 17], [], [(.tmp 15, 28, .int)], [], []⟩ (⟨[], [], [], [], []⟩)
def iN (t2 : Bool) (t16 t17 : Int) (dI : zzI) : ASt UU := ⟨fun u => cond (Nat.beq u 2) (.bool t2) (cond (Nat.beq u 15) (.osl 28 0) (cond (Nat.beq u 16) (.int .i64 t16) (cond (Nat.beq u 17) (.int .i64 t17) (.any)))), fun u => cond (Nat.beq u 28) (some (.row .int 0 dI)) (none)⟩
def aLI (qa aR aP aO aN aZ : Int) (Q : Bool → Prop) (i0 : Bool → Int → Int → zzI → Prop) : Prop := (let v0 := (([aR, aP, aO, aN, aZ]).length : Int); i0 false v0 0 ([aR, aP, aO, aN, aZ]))
def aLH (rec : Bool → Int → Int → zzI → Prop) (x0 : Bool → Int → Int → zzI → Prop) (x1 : Bool → Int → Int → zzI → Prop) (t2 : Bool) (t16 t17 : Int) (dI : zzI) : Prop := cond (decide (t17 < t16)) (((0 ≤ t17 ∧ t17 < dI.length) ∧ cond ((decide ((dI.getD t17.toNat default) < (-1048576))) || (decide (1048576 < (dI.getD t17.toNat default)))) (x0 false t16 t17 dI) (rec t2 t16 (aD (t17 + 1)) dI))) (x1 t2 t16 t17 dI)
def aB9 (Q : Bool → Prop) (t2 : Bool) (t16 t17 : Int) (dI : zzI) : Prop := Q t2
def aB8 (Q : Bool → Prop) (t2 : Bool) (t16 t17 : Int) (dI : zzI) : Prop := Q true
def vK (F : Nat) (x0 : Bool → Int → Int → zzI → Prop) (x1 : Bool → Int → Int → zzI → Prop) : Nat → Bool → Int → Int → zzI → Prop
 | 0, _, _, _, _ => False
 | n + 1, t2, t16, t17, dI => aLH (vK F x0 x1 n) x0 x1 t2 t16 t17 dI
def aEE (F : Nat) (Q : Bool → Prop) (t2 : Bool) (t16 t17 : Int) (dI : zzI) : Prop := vK F (fun t2 t16 t17 dI => aB9 Q t2 t16 t17 dI) (fun t2 t16 t17 dI => aB8 Q t2 t16 t17 dI) F t2 t16 t17 dI
def aIB (F : Nat) (qa aR aP aO aN aZ : Int) (Q : Bool → Prop) : Prop := aLI qa aR aP aO aN aZ Q (aEE F Q)
def same {α : Type} (a b : α) : Bool := @decide (a = b) (Classical.propDecidable _)
def j6 (a b : Seg) : Bool := zP a.X1 a.Y1 a.X2 a.Y2 b.X1 b.Y1 b.X2 b.Y2
def eX (a b : Seg) : Bool := zQ a.X1 a.Y1 a.X2 a.Y2 b.X1 b.Y1 b.X2 b.Y2
def wO (x : Seg) : List Seg → List Seg
 | [] => [x]
 | y :: r => bif j6 x y then y :: wO x r else x :: y :: r
def ins (l : List Seg) (x : Seg) : List Seg := (wO x l.reverse).reverse
def aKt (l : List Seg) : List Seg := l.foldl ins []
def eK (a b : Seg) : Seg := Seg.mk a.X1 a.Y1 (ma a.X2 b.X2) (ma a.Y2 b.Y2)
def oA (x : Seg) : List Seg → List Seg
 | [] => [x]
 | y :: r => bif eX y x then eK y x :: r else x :: y :: r
def eV (l : List Seg) (x : Seg) : List Seg := (oA x l.reverse).reverse
def aDG (l : List Seg) : List Seg := (aKt l).foldl eV []
theorem aSL (a : List Seg) (y x : Seg) : eV (a ++ [y]) x = bif eX y x then a ++ [eK y x] else a ++ [y, x] := by
 unfold eV
 rw [List.reverse_append]
 show (bif eX y x then eK y x :: a.reverse else x :: y :: a.reverse).reverse = _
 cases eX y x
 ·show (x :: y :: a.reverse).reverse = a ++ [y, x]
  simp
 ·show (eK y x :: a.reverse).reverse = a ++ [eK y x]
  simp
theorem aUY {α : Type} [Inhabited α] (a : List α) (x : α) (b : List α) : (a ++ x :: b).getD a.length default = x := by simp [List.getD_eq_getElem?_getD]
theorem aOP {α : Type} (a : List α) (x y : α) (b : List α) : (a ++ x :: b).set a.length y = a ++ y :: b := by simp
theorem aNM {i : Nat} (h : 0 < i) (hn : i ≤ 1000000000) : aD ((i : Int) - 1) = ((i - 1 : Nat) : Int) := by
 rw [fU (by omega) (by omega)]
 omega
def inR (n : Int) : Bool := !((decide (n < (-1048576))) || (decide (1048576 < n)))
def nS (k x y w h n : Int) : Bool := [x, y, w, h, n].all inR
theorem aQt (qa : Int) (aR : Int) (aP : Int) (aO : Int) (aN : Int) (aZ : Int) : ∃ F, ∀ Q : Bool → Prop, Q (nS qa aR aP aO aN aZ) → aIB F qa aR aP aO aN aZ Q := by
 refine ⟨6, fun Q hQ => ?_⟩
 unfold nS at hQ
 show vK 6 _ _ 6 false 5 0 [aR, aP, aO, aN, aZ]
 refine aCF [aR, aP, aO, aN, aZ] inR (by simp) (fun n i => vK 6 _ _ n false 5 i [aR, aP, aO, aN, aZ]) (fun j => aB9 Q false 5 j [aR, aP, aO, aN, aZ]) (fun j => aB8 Q false 5 j [aR, aP, aO, aN, aZ]) (fun n i => ?_) 6 (by simp) (fun q j => ?_) (fun q => ?_)
 ·show cond _ _ _ = cond _ _ _
  unfold inR
  rw [Bool.not_not]
  rfl
 ·rw [q] at hQ
  exact hQ
 ·rw [q] at hQ
  exact hQ
def aHn : Nat → Nat → Nat → Canon UU := fun o b r => ⟨[], [], [], [], []⟩
def aGK (a_0 a_1 a_2 a_3 c_0 c_1 c_2 c_3 : Int) (Q : Bool → Prop) : Prop := Q (zN c_0 c_1 c_2 c_3 a_0 a_1 a_2 a_3)
def aCx (F : Nat) (a_0 a_1 a_2 a_3 c_0 c_1 c_2 c_3 : Int) (Q : Bool → Prop) : Prop := aGK a_0 a_1 a_2 a_3 c_0 c_1 c_2 c_3 Q
def zR (a_0 a_1 a_2 a_3 c_0 c_1 c_2 c_3 : Int) : Bool := (zN c_0 c_1 c_2 c_3 a_0 a_1 a_2 a_3)
theorem aR4 (a_0 a_1 a_2 a_3 c_0 c_1 c_2 c_3 : Int) : ∃ F, ∀ Q : Bool → Prop, Q (zR a_0 a_1 a_2 a_3 c_0 c_1 c_2 c_3) → aCx F a_0 a_1 a_2 a_3 c_0 c_1 c_2 c_3 Q := by
 refine ⟨0, fun Q h => ?_⟩
 unfold aCx aGK
 unfold zR at h
 exact h
def rR : Nat → Nat → Nat → Canon UU := fun o b r => cond (Nat.beq b 0) ⟨[0, 1, 4, 7, 8], [], [], [], []⟩ (⟨[], [], [], [], []⟩)
def iT (t0 : List aQ) (dE dD dC dB t4 t7 t8 : Int) : ASt UU := ⟨fun u => cond (Nat.beq u 0) (.sl .rect t0) (cond (Nat.beq u 1) (.fn 84 [.ref [.int .i64 dE, .int .i64 dD, .int .i64 dC, .int .i64 dB] 0]) (cond (Nat.beq u 4) (.int .i64 t4) (cond (Nat.beq u 7) (.int .i64 t7) (cond (Nat.beq u 8) (.int .i64 t8) (.any))))), fun u => none⟩
def aL0 (l : List aQ) (c_0 c_1 c_2 c_3 : Int) (Q : Int → Prop) (i0 : List aQ → Int → Int → Int → Int → Int → Int → Int → Prop) : Prop := i0 l c_0 c_1 c_2 c_3 0 (l.length : Int) 0
def aLZ (rec : List aQ → Int → Int → Int → Int → Int → Int → Int → Prop) (x0 : List aQ → Int → Int → Int → Int → Int → Int → Int → Prop) (x1 : List aQ → Int → Int → Int → Int → Int → Int → Int → Prop) (t0 : List aQ) (dE dD dC dB t4 t7 t8 : Int) : Prop := cond (decide (t8 < t7)) ((let e0 := (t0.getD t8.toNat default); (let r1 := (zR e0.X e0.Y e0.W e0.H dE dD dC dB); ((0 ≤ t8 ∧ t8 < t0.length) ∧ cond r1 (x0 t0 dE dD dC dB t8 t7 t8) (rec t0 dE dD dC dB t4 t7 (aD (t8 + 1))))))) (x1 t0 dE dD dC dB t4 t7 t8)
def s6 (Q : Int → Prop) (t0 : List aQ) (dE dD dC dB t4 t7 t8 : Int) : Prop := Q t4
def q7 (Q : Int → Prop) (t0 : List aQ) (dE dD dC dB t4 t7 t8 : Int) : Prop := Q (-1)
def vP (F : Nat) (x0 : List aQ → Int → Int → Int → Int → Int → Int → Int → Prop) (x1 : List aQ → Int → Int → Int → Int → Int → Int → Int → Prop) : Nat → List aQ → Int → Int → Int → Int → Int → Int → Int → Prop
 | 0, _, _, _, _, _, _, _, _ => False
 | n + 1, t0, dE, dD, dC, dB, t4, t7, t8 => aLZ (vP F x0 x1 n) x0 x1 t0 dE dD dC dB t4 t7 t8
def aEO (F : Nat) (Q : Int → Prop) (t0 : List aQ) (dE dD dC dB t4 t7 t8 : Int) : Prop := vP F (fun t0 dE dD dC dB t4 t7 t8 => s6 Q t0 dE dD dC dB t4 t7 t8) (fun t0 dE dD dC dB t4 t7 t8 => q7 Q t0 dE dD dC dB t4 t7 t8) F t0 dE dD dC dB t4 t7 t8
def aIT (F : Nat) (l : List aQ) (c_0 c_1 c_2 c_3 : Int) (Q : Int → Prop) : Prop := aL0 l c_0 c_1 c_2 c_3 Q (aEO F Q)
def tQ {α : Type} (p : α → Bool) : List α → Int → Int
 | [], _ => -1
 | x :: r, i => bif p x then i else tQ p r (i + 1)
theorem aKz {α : Type} (p : α → Bool) : ∀ (l : List α) (i : Int), 0 ≤ i → (decide (0 ≤ tQ p l i)) = l.any p
 | [], i, h => rfl
 | x :: r, i, h => by
  unfold tQ
  rw [List.any_cons]
  cases p x
  ·exact aKz p r (i + 1) (by omega)
  ·exact eN h
theorem aUC {α : Type} [Inhabited α] (l : List α) (p : α → Bool) (hl : l.length ≤ 1000000) (Q : Int → Prop) (W : Nat → Int → Prop) (hs : ∀ n i, W (n + 1) i = cond (decide (i < (l.length : Int))) ((0 ≤ i ∧ i < (l.length : Int)) ∧ cond (p (l.getD i.toNat default)) (Q i) (W n (aD (i + 1)))) (Q (-1))) :
  ∀ (n i : Nat), i ≤ l.length → l.length < n + i → Q (tQ p (l.drop i) i) → W n i := by
 intro n
 induction n with
 | zero => intro i h1 h2; omega
 | succ n ih =>
  intro i h1 h2 hQ
  rw [hs]
  by_cases h : i < l.length
  ·rw [eN (show (i : Int) < l.length by omega), cond_true]
   refine ⟨⟨by omega, by omega⟩, ?_⟩
   rw [oF l i h] at hQ
   unfold tQ at hQ
   rw [Int.toNat_natCast, lK h (by omega)]
   cases hp : p (l.getD i default) with
   | true =>
    rw [hp] at hQ
    exact hQ
   | false =>
    rw [hp] at hQ
    exact ih (i + 1) (by omega) (by omega) hQ
  ·have e : i = l.length := by omega
   subst e
   rw [eT (by omega), cond_false]
   rw [List.drop_length] at hQ
   exact hQ
def sB (a b c d : Int) (r : aQ) : Bool := zR r.X r.Y r.W r.H a b c d
def aAk (l : List aQ) (a b c d : Int) : Prop := l.length ≤ 1000000
def aAX (l : List aQ) (a b c d : Int) : Int := tQ (sB a b c d) l 0
theorem aRX (l : List aQ) (c_0 : Int) (c_1 : Int) (c_2 : Int) (c_3 : Int) (h : aAk l c_0 c_1 c_2 c_3) : ∃ F, ∀ Q : Int → Prop, Q (aAX l c_0 c_1 c_2 c_3) → aIT F l c_0 c_1 c_2 c_3 Q := by
 refine ⟨l.length + 1, fun Q hQ => ?_⟩
 have key : ∀ (n i : Nat) (t4 : Int), i ≤ l.length → l.length < n + i → Q (tQ (sB c_0 c_1 c_2 c_3) (l.drop i) i) → vP (l.length + 1) (fun t0 dE dD dC dB t4 t7 t8 => s6 Q t0 dE dD dC dB t4 t7 t8) (fun t0 dE dD dC dB t4 t7 t8 => q7 Q t0 dE dD dC dB t4 t7 t8) n l c_0 c_1 c_2 c_3 t4 l.length i :=
  fun n i t4 => aUC l (sB c_0 c_1 c_2 c_3) h Q (fun n i => vP (l.length + 1) (fun t0 dE dD dC dB t4 t7 t8 => s6 Q t0 dE dD dC dB t4 t7 t8) (fun t0 dE dD dC dB t4 t7 t8 => q7 Q t0 dE dD dC dB t4 t7 t8) n l c_0 c_1 c_2 c_3 t4 l.length i) (fun n i => rfl) n i
 exact key (l.length + 1) 0 0 (by omega) (by omega) hQ
def fC (s : Seg) : Prop := ((s.X1 == s.X2) == (s.Y1 == s.Y2)) = false ∧ s.X1 ≤ s.X2 ∧ s.Y1 ≤ s.Y2
def fQ (l : List Seg) : Prop := ∀ s ∈ l, fC s
def aNQ (l : List Seg) : List Seg := aDG l
def aHo : Nat → Nat → Nat → Canon UU := fun o b r => ⟨[], [], [], [], []⟩
def aGL (l : List aQ) (c_0 c_1 c_2 c_3 : Int) (Q : Bool → Prop) : Prop := ((aAk l c_0 c_1 c_2 c_3) ∧ Q (decide (0 ≤ (aAX l c_0 c_1 c_2 c_3))))
def aCy (F : Nat) (l : List aQ) (c_0 c_1 c_2 c_3 : Int) (Q : Bool → Prop) : Prop := aGL l c_0 c_1 c_2 c_3 Q
def sN (l : List aQ) (c_0 c_1 c_2 c_3 : Int) : Prop := (aAk l c_0 c_1 c_2 c_3)
def qB (l : List aQ) (c_0 c_1 c_2 c_3 : Int) : Bool := decide (0 ≤ (aAX l c_0 c_1 c_2 c_3))
theorem aR5 (l : List aQ) (c_0 c_1 c_2 c_3 : Int) (hp : sN l c_0 c_1 c_2 c_3) : ∃ F, ∀ Q : Bool → Prop, Q (qB l c_0 c_1 c_2 c_3) → aCy F l c_0 c_1 c_2 c_3 Q := by
 refine ⟨0, fun Q h => ?_⟩
 unfold aCy aGL
 unfold qB at h
 unfold sN at hp
 have mU := hp
 refine ⟨mU, ?_⟩
 exact h
def qP (x y z : Int) : Int := if x ≠ 0 then x else if y ≠ 0 then y else z
def mB (a b : Seg) : Int :=
 if a.Y1 = a.Y2 ∧ ¬ b.Y1 = b.Y2 then -1 else if b.Y1 = b.Y2 ∧ ¬ a.Y1 = a.Y2 then 1 else
 if a.Y1 = a.Y2 then qP (Lib.compareInt a.Y1 b.Y1) (Lib.compareInt a.X1 b.X1) (Lib.compareInt a.X2 b.X2)
 else qP (Lib.compareInt a.X1 b.X1) (Lib.compareInt a.Y1 b.Y1) (Lib.compareInt a.Y2 b.Y2)
theorem aJM (a1 b1 a2 b2 a3 b3 : Int) : qP (Lib.compareInt a1 b1) (Lib.compareInt a2 b2) (Lib.compareInt a3 b3) < 0 ↔ (a1 < b1 ∨ a1 = b1 ∧ (a2 < b2 ∨ a2 = b2 ∧ a3 < b3)) := by
 unfold qP Lib.compareInt
 by_cases h1 : a1 < b1
 ·simp [h1]
 ·by_cases h2 : b1 < a1
  ·have : ¬ a1 = b1 := by omega
   simp [h1, h2, this]
  ·have e : a1 = b1 := by omega
   subst e
   by_cases h3 : a2 < b2
   ·simp [h3]
   ·by_cases h4 : b2 < a2
    ·have : ¬ a2 = b2 := by omega
     simp [h3, h4, this]
    ·have e : a2 = b2 := by omega
     subst e
     by_cases h5 : a3 < b3
     ·simp [h5]
     ·by_cases h6 : b3 < a3
      ·simp [h5, h6]
      ·simp [h5, h6]
def ltS (a b : Seg) : Prop := (a.Y1 = a.Y2 ∧ ¬ b.Y1 = b.Y2) ∨ (a.Y1 = a.Y2 ∧ b.Y1 = b.Y2 ∧ (a.Y1 < b.Y1 ∨ a.Y1 = b.Y1 ∧ (a.X1 < b.X1 ∨ a.X1 = b.X1 ∧ a.X2 < b.X2))) ∨
 (¬ a.Y1 = a.Y2 ∧ ¬ b.Y1 = b.Y2 ∧ (a.X1 < b.X1 ∨ a.X1 = b.X1 ∧ (a.Y1 < b.Y1 ∨ a.Y1 = b.Y1 ∧ a.Y2 < b.Y2)))
theorem aQY (a b : Seg) : mB a b < 0 ↔ ltS a b := by
 unfold mB ltS
 by_cases h1 : a.Y1 = a.Y2 <;> by_cases h2 : b.Y1 = b.Y2
 ·simp only [h1, h2, true_and, not_true_eq_false, false_and, and_false, if_false, if_true, or_false, false_or]
  rw [aJM]
 ·simp only [h1, h2, true_and, not_true_eq_false, not_false_eq_true, false_and, and_false, if_true, or_false, iff_true]
  decide
 ·simp only [h1, h2, true_and, not_true_eq_false, not_false_eq_true, false_and, and_false, if_false, if_true, or_false, iff_false]
  decide
 ·simp only [h1, h2, true_and, not_false_eq_true, false_and, and_false, if_false, false_or]
  rw [aJM]
theorem aEb (a b : Seg) : ltOf mB a b = true ↔ ltS a b := by
 unfold ltOf
 rw [decide_eq_true_eq, aQY]
theorem j5 (a b : Seg) : ltOf mB a b = false ↔ ¬ ltS a b := by
 rw [← aEb, Bool.not_eq_true]
theorem aJK : Go.Sort.SWO (ltOf mB) where
 irrefl x := by rw [j5]; unfold ltS; omega
 trans x y z h1 h2 := by rw [aEb] at *; unfold ltS at *; omega
 ntrans x y z h1 h2 := by rw [j5] at *; unfold ltS at *; omega
def fW (l : List Seg) : List Seg := l.mergeSort (fun a b => !(ltOf mB b a))
theorem sK (l : List Seg) : (fW l).Perm l := List.mergeSort_perm _ _
theorem aJB (l : List Seg) : (fW l).Pairwise (fun a b => ¬ ltS b a) := by
 have h : (fW l).Pairwise (fun a b => (!(ltOf mB b a)) = true) := by
  refine List.pairwise_mergeSort ?_ ?_ _
  ·intro a b c h1 h2
   simp only [Bool.not_eq_true'] at h1 h2 ⊢
   exact aJK.ntrans c b a h2 h1
  ·intro a b
   cases h : ltOf mB b a with
   | false => simp
   | true =>
    have h1 : ¬ ltS a b := by
     rw [aEb] at h
     unfold ltS at *
     omega
    simp [(j5 a b).2 h1]
 refine h.imp fun {a b} q => ?_
 rw [Bool.not_eq_true'] at q
 exact (j5 _ _).1 q
theorem b7 (s : Seg) : fC s ↔ (s.X1 = s.X2 ↔ ¬ s.Y1 = s.Y2) ∧ s.X1 ≤ s.X2 ∧ s.Y1 ≤ s.Y2 := by
 unfold fC
 by_cases h1 : s.X1 = s.X2 <;> by_cases h2 : s.Y1 = s.Y2
 ·rw [beq_iff_eq.2 h1, beq_iff_eq.2 h2]
  simp [h1, h2]
 ·rw [beq_iff_eq.2 h1, beq_eq_false_iff_ne.2 h2]
  simp [h1, h2]
 ·rw [beq_eq_false_iff_ne.2 h1, beq_iff_eq.2 h2]
  simp [h1, h2]
 ·rw [beq_eq_false_iff_ne.2 h1, beq_eq_false_iff_ne.2 h2]
  simp [h1, h2]
theorem vY {a b : Seg} (h1 : a.X1 = b.X1) (h2 : a.Y1 = b.Y1) (h3 : a.X2 = b.X2) (h4 : a.Y2 = b.Y2) : a = b := by
 cases a; cases b
 cases h1; cases h2; cases h3; cases h4
 rfl
theorem aS1 {a b : Seg} (ha : fC a) (hb : fC b) (h1 : ¬ ltS a b) (h2 : ¬ ltS b a) : a = b := by
 rw [b7] at ha hb
 unfold ltS at h1 h2
 refine vY ?_ ?_ ?_ ?_ <;> omega
theorem aPu {l l' : List Seg} (hl : fQ l) (hp : l'.Perm l) (hs : l'.Pairwise (fun a b => ¬ ltS b a)) : l' = fW l :=
 List.Perm.eq_of_pairwise (le := fun a b => ¬ ltS b a) (fun a b ha hb h1 h2 => aS1 (hl a (hp.mem_iff.1 ha)) (hl b ((sK l).mem_iff.1 hb)) h2 h1) hs (aJB l) (hp.trans (sK l).symm)
def ltW (a b : Seg) : Prop := (a.Y1 = a.Y2 ∧ ¬ b.Y1 = b.Y2) ∨ (a.Y1 = a.Y2 ∧ b.Y1 = b.Y2 ∧ (a.Y1 < b.Y1 ∨ a.Y1 = b.Y1 ∧ a.X1 < b.X1)) ∨ (¬ a.Y1 = a.Y2 ∧ ¬ b.Y1 = b.Y2 ∧ (a.X1 < b.X1 ∨ a.X1 = b.X1 ∧ a.Y1 < b.Y1))
theorem aKe (a b : Seg) : j6 a b = true ↔ ltW a b := by
 unfold j6 zP ltW
 by_cases h1 : a.Y1 = a.Y2 <;> by_cases h2 : b.Y1 = b.Y2
 ·have e1 : (a.Y1 == a.Y2) = true := by simpa using h1
  have e2 : (b.Y1 == b.Y2) = true := by simpa using h2
  rw [e1, e2]
  simp [h1, h2]
 ·have e1 : (a.Y1 == a.Y2) = true := by simpa using h1
  have e2 : (b.Y1 == b.Y2) = false := by simpa using h2
  rw [e1, e2]
  simp [h1, h2]
 ·have e1 : (a.Y1 == a.Y2) = false := by simpa using h1
  have e2 : (b.Y1 == b.Y2) = true := by simpa using h2
  rw [e1, e2]
  simp [h1, h2]
 ·have e1 : (a.Y1 == a.Y2) = false := by simpa using h1
  have e2 : (b.Y1 == b.Y2) = false := by simpa using h2
  rw [e1, e2]
  simp [h1, h2]
theorem aS0 {a b : Seg} (h : ltW a b) : ltS a b := by
 unfold ltW at h
 unfold ltS
 omega
theorem aEi (x : Seg) : ∀ l : List Seg, (wO x l).Perm (x :: l)
 | [] => List.Perm.refl _
 | y :: r => by
  unfold wO
  cases j6 x y with
  | false => exact List.Perm.refl _
  | true => exact ((aEi x r).cons y).trans (List.Perm.swap x y r)
theorem aKu (x : Seg) : ∀ l : List Seg, l.Pairwise (fun a b => ¬ ltW a b) → (wO x l).Pairwise (fun a b => ¬ ltW a b)
 | [], _ => List.pairwise_singleton _ _
 | y :: r, h => by
  rw [List.pairwise_cons] at h
  unfold wO
  cases hc : j6 x y with
  | false =>
   have hxy : ¬ ltW x y := fun q => by rw [(aKe x y).2 q] at hc; cases hc
   rw [cond_false, List.pairwise_cons, List.pairwise_cons]
   refine ⟨fun z hz => ?_, h⟩
   rcases List.mem_cons.1 hz with rfl | hz
   ·exact hxy
   ·have := h.1 z hz
    unfold ltW at *
    omega
  | true =>
   have hxy : ltW x y := (aKe x y).1 hc
   rw [cond_true, List.pairwise_cons]
   refine ⟨fun z hz => ?_, aKu x r h.2⟩
   rcases List.mem_cons.1 ((aEi x r).mem_iff.1 hz) with rfl | hz
   ·unfold ltW at *
    omega
   ·exact h.1 z hz
theorem aTt (l : List Seg) (x : Seg) : (ins l x).Perm (x :: l) := by
 unfold ins
 exact (List.reverse_perm _).trans ((aEi x l.reverse).trans ((List.reverse_perm l).cons x))
theorem aTs (l : List Seg) (x : Seg) (h : l.Pairwise (fun a b => ¬ ltW b a)) : (ins l x).Pairwise (fun a b => ¬ ltW b a) := by
 unfold ins
 rw [List.pairwise_reverse]
 refine aKu x _ ?_
 rw [List.pairwise_reverse]
 exact h
theorem aKs : ∀ (l o : List Seg), o.Pairwise (fun a b => ¬ ltW b a) → (l.foldl ins o).Perm (l ++ o) ∧ (l.foldl ins o).Pairwise (fun a b => ¬ ltW b a)
 | [], o, h => ⟨List.Perm.refl _, h⟩
 | x :: l, o, h => by
  obtain ⟨h1, h2⟩ := aKs l (ins o x) (aTs o x h)
  refine ⟨h1.trans (((aTt o x).append_left l).trans ?_), h2⟩
  exact List.perm_middle
theorem qV (a b : Int) : a ≤ ma a b ∧ b ≤ ma a b ∧ (ma a b = a ∨ ma a b = b) := by
 unfold ma
 split <;> omega
def joP (a b : Seg) : Prop := (a.Y1 = a.Y2 ∧ b.Y1 = b.Y2 ∧ a.Y1 = b.Y1 ∧ b.X1 ≤ a.X2) ∨ (¬ a.Y1 = a.Y2 ∧ b.X1 = b.X2 ∧ a.X1 = b.X1 ∧ b.Y1 ≤ a.Y2)
theorem aEe (a b : Seg) : eX a b = true ↔ joP a b := by
 unfold eX zQ joP
 by_cases h1 : a.Y1 = a.Y2
 ·have e1 : (a.Y1 == a.Y2) = true := by simpa using h1
  rw [e1]
  simp [h1, and_assoc]
 ·have e1 : (a.Y1 == a.Y2) = false := by simpa using h1
  rw [e1]
  simp [h1, and_assoc]
theorem aSx {z x : Seg} (hz : fC z) (hx : fC x) (h : joP z x) : fC (eK z x) := by
 rw [b7] at *
 have m1 := qV z.X2 x.X2
 have m2 := qV z.Y2 x.Y2
 unfold joP at h
 show (z.X1 = ma z.X2 x.X2 ↔ ¬ z.Y1 = ma z.Y2 x.Y2) ∧ z.X1 ≤ ma z.X2 x.X2 ∧ z.Y1 ≤ ma z.Y2 x.Y2
 omega
theorem aSN {x : Seg} (hx : fC x) : ∀ {l : List Seg}, fQ l → fQ (oA x l)
 | [], _ => fun s hs => by
  rw [List.mem_singleton.1 hs]
  exact hx
 | z :: r, h => by
  show fQ (bif eX z x then eK z x :: r else x :: z :: r)
  cases hc : eX z x with
  | false =>
   intro s hs
   rcases List.mem_cons.1 (show s ∈ x :: z :: r from hs) with rfl | hs
   ·exact hx
   ·exact h s hs
  | true =>
   intro s hs
   rcases List.mem_cons.1 (show s ∈ eK z x :: r from hs) with rfl | hs
   ·exact aSx (h z (by simp)) hx ((aEe _ _).1 hc)
   ·exact h s (by simp [hs])
theorem aES {x : Seg} {l : List Seg} (hx : fC x) (h : fQ l) : fQ (eV l x) := by
 unfold eV
 intro s hs
 exact aSN hx (l := l.reverse) (fun s hs => h s (List.mem_reverse.1 hs)) s (List.mem_reverse.1 hs)
theorem sL {s : Seg} (h : fC s) : (s.Y1 = s.Y2 ∧ s.X1 < s.X2) ∨ (s.X1 = s.X2 ∧ s.Y1 < s.Y2) := by
 rw [b7] at h
 omega
theorem aN1 {x y : Seg} (hx : fC x) (hy : fC y) (h1 : ¬ ltW x y) (h2 : ¬ ltW y x) :
  (x.Y1 = x.Y2 ∧ x.X1 < x.X2 ∧ y.Y1 = y.Y2 ∧ y.X1 < y.X2 ∧ x.Y1 = y.Y1 ∧ x.X1 = y.X1) ∨ (x.X1 = x.X2 ∧ x.Y1 < x.Y2 ∧ y.X1 = y.X2 ∧ y.Y1 < y.Y2 ∧ x.X1 = y.X1 ∧ x.Y1 = y.Y1) := by
 unfold ltW at h1 h2
 rcases sL hx with ⟨a, b⟩ | ⟨a, b⟩ <;> rcases sL hy with ⟨c, d⟩ | ⟨c, d⟩ <;> omega
theorem aBF (a b : Int) : ma a b = ma b a := by unfold ma; split <;> split <;> omega
theorem aJ8 (a b c : Int) : ma (ma a b) c = ma (ma a c) b := by
 have h1 := qV a b
 have h2 := qV (ma a b) c
 have h3 := qV a c
 have h4 := qV (ma a c) b
 omega
theorem aBE (a : Int) : ma a a = a := by unfold ma; split <;> rfl
theorem oC {z x : Seg} (hz : fC z) (h1 : x.Y1 = x.Y2) (h2 : x.X1 < x.X2) : eX z x = true ↔ z.Y1 = z.Y2 ∧ z.X1 < z.X2 ∧ z.Y1 = x.Y1 ∧ x.X1 ≤ z.X2 := by
 rw [aEe]
 unfold joP
 rcases sL hz with ⟨a, b⟩ | ⟨a, b⟩
 ·constructor
  ·rintro (q | q) <;> omega
  ·intro q
   left
   omega
 ·constructor
  ·rintro (q | q) <;> omega
  ·intro q
   omega
theorem oB {z x : Seg} (hz : fC z) (h1 : x.X1 = x.X2) (h2 : x.Y1 < x.Y2) : eX z x = true ↔ z.X1 = z.X2 ∧ z.Y1 < z.Y2 ∧ z.X1 = x.X1 ∧ x.Y1 ≤ z.Y2 := by
 rw [aEe]
 unfold joP
 rcases sL hz with ⟨a, b⟩ | ⟨a, b⟩
 ·constructor
  ·rintro (q | q) <;> omega
  ·intro q
   omega
 ·constructor
  ·rintro (q | q) <;> omega
  ·intro q
   right
   omega
theorem aPx {s : Seg} (h1 : s.Y1 = s.Y2) (h2 : s.X1 < s.X2) : fC s := by
 rw [b7]
 omega
theorem aPw {s : Seg} (h1 : s.X1 = s.X2) (h2 : s.Y1 < s.Y2) : fC s := by
 rw [b7]
 omega
theorem aKq {x y : Seg} (hx : fC x) (hy : fC y) (h1 : ¬ ltW x y) (h2 : ¬ ltW y x) :
  eX x y = true ∧ eX y x = true ∧ eK x y = eK y x ∧ ∀ z, fC z → eX z x = eX z y ∧ (eX z x = true → eX (eK z x) y = true) := by
 rcases aN1 hx hy h1 h2 with ⟨a1, a2, a3, a4, a5, a6⟩ | ⟨a1, a2, a3, a4, a5, a6⟩
 ·refine ⟨(oC hx a3 a4).2 (by omega), (oC hy a1 a2).2 (by omega), vY a6 a5 (aBF _ _) (aBF _ _), fun z hz => ⟨?_, fun q => ?_⟩⟩
  ·rw [Bool.eq_iff_iff, oC hz a1 a2, oC hz a3 a4]
   omega
  ·rw [oC hz a1 a2] at q
   have m1 := qV z.X2 x.X2
   have e2 : ma z.Y2 x.Y2 = z.Y2 := by
    rw [show x.Y2 = z.Y2 by omega, aBE]
   have hp : fC (eK z x) := aPx (show z.Y1 = ma z.Y2 x.Y2 by omega) (show z.X1 < ma z.X2 x.X2 by omega)
   rw [oC hp a3 a4]
   refine ⟨show z.Y1 = ma z.Y2 x.Y2 by omega, show z.X1 < ma z.X2 x.X2 by omega, show z.Y1 = y.Y1 by omega, show y.X1 ≤ ma z.X2 x.X2 by omega⟩
 ·refine ⟨(oB hx a3 a4).2 (by omega), (oB hy a1 a2).2 (by omega), vY a5 a6 (aBF _ _) (aBF _ _), fun z hz => ⟨?_, fun q => ?_⟩⟩
  ·rw [Bool.eq_iff_iff, oB hz a1 a2, oB hz a3 a4]
   omega
  ·rw [oB hz a1 a2] at q
   have m1 := qV z.Y2 x.Y2
   have e2 : ma z.X2 x.X2 = z.X2 := by
    rw [show x.X2 = z.X2 by omega, aBE]
   have hp : fC (eK z x) := aPw (show z.X1 = ma z.X2 x.X2 by omega) (show z.Y1 < ma z.Y2 x.Y2 by omega)
   rw [oB hp a3 a4]
   refine ⟨show z.X1 = ma z.X2 x.X2 by omega, show z.Y1 < ma z.Y2 x.Y2 by omega, show z.X1 = y.X1 by omega, show y.Y1 ≤ ma z.Y2 x.Y2 by omega⟩
theorem aSO {x y : Seg} (hx : fC x) (hy : fC y) (h1 : ¬ ltW x y) (h2 : ¬ ltW y x) : ∀ {l : List Seg}, fQ l → oA y (oA x l) = oA x (oA y l) := by
 obtain ⟨k1, k2, k3, k4⟩ := aKq hx hy h1 h2
 obtain ⟨_, _, _, k5⟩ := aKq hy hx h2 h1
 intro l
 cases l with
 | nil =>
  intro _
  show (bif eX x y then [eK x y] else [y, x]) = bif eX y x then [eK y x] else [x, y]
  rw [k1, k2, k3]
  rfl
 | cons z r =>
  intro h
  have hz := h z (by simp)
  obtain ⟨q1, q2⟩ := k4 z hz
  obtain ⟨_, q3⟩ := k5 z hz
  cases hc : eX z x with
  | false =>
   have hc' : eX z y = false := by rw [← q1]; exact hc
   have e1 : oA x (z :: r) = x :: z :: r := by
    show (bif eX z x then eK z x :: r else x :: z :: r) = _
    rw [hc]; rfl
   have e2 : oA y (z :: r) = y :: z :: r := by
    show (bif eX z y then eK z y :: r else y :: z :: r) = _
    rw [hc']; rfl
   rw [e1, e2]
   show (bif eX x y then eK x y :: z :: r else y :: x :: z :: r) = bif eX y x then eK y x :: z :: r else x :: y :: z :: r
   rw [k1, k2, k3]
   rfl
  | true =>
   have hc' : eX z y = true := by rw [← q1]; exact hc
   have e1 : oA x (z :: r) = eK z x :: r := by
    show (bif eX z x then eK z x :: r else x :: z :: r) = _
    rw [hc]; rfl
   have e2 : oA y (z :: r) = eK z y :: r := by
    show (bif eX z y then eK z y :: r else y :: z :: r) = _
    rw [hc']; rfl
   rw [e1, e2]
   show (bif eX (eK z x) y then eK (eK z x) y :: r else y :: eK z x :: r) = bif eX (eK z y) x then eK (eK z y) x :: r else x :: eK z y :: r
   rw [q2 hc, q3 hc', show eK (eK z x) y = eK (eK z y) x from vY rfl rfl (aJ8 _ _ _) (aJ8 _ _ _)]
   rfl
theorem aSM {x y : Seg} {l : List Seg} (hx : fC x) (hy : fC y) (h1 : ¬ ltW x y) (h2 : ¬ ltW y x) (hl : fQ l) : eV (eV l x) y = eV (eV l y) x := by
 unfold eV
 rw [List.reverse_reverse, List.reverse_reverse, aSO hx hy h1 h2 (fun s hs => hl s (List.mem_reverse.1 hs))]
theorem aLj (x : Seg) (hx : fC x) : ∀ (a b o : List Seg), fQ o → fQ a → (∀ s ∈ a, ¬ ltW x s ∧ ¬ ltW s x) → (a ++ x :: b).foldl eV o = (x :: (a ++ b)).foldl eV o
 | [], b, o, _, _, _ => rfl
 | y :: a, b, o, ho, ha, h => by
  have hy := ha y (by simp)
  show (a ++ x :: b).foldl eV (eV o y) = (a ++ b).foldl eV (eV (eV o x) y)
  rw [aLj x hx a b (eV o y) (aES hy ho) (fun s hs => ha s (by simp [hs])) (fun s hs => h s (by simp [hs]))]
  show (a ++ b).foldl eV (eV (eV o y) x) = _
  rw [aSM hx hy (h y (by simp)).1 (h y (by simp)).2 ho]
theorem aLi : ∀ (l l' o : List Seg), l.Perm l' → l.Pairwise (fun a b => ¬ ltW b a) → l'.Pairwise (fun a b => ¬ ltW b a) → fQ l → fQ o → l.foldl eV o = l'.foldl eV o
 | [], l', o, hp, _, _, _, _ => by
  rw [List.nil_perm.1 hp]
 | x :: t, l', o, hp, h1, h2, hl, ho => by
  obtain ⟨a, b, rfl⟩ := List.append_of_mem (hp.mem_iff.1 (List.mem_cons_self ..))
  have hx := hl x (by simp)
  rw [List.pairwise_cons] at h1
  have hp' : t.Perm (a ++ b) := List.Perm.cons_inv (hp.trans List.perm_middle)
  have ha : ∀ s ∈ a, s ∈ x :: t := fun s hs => hp.mem_iff.2 (by simp [hs])
  rw [aLj x hx a b o ho (fun s hs => hl s (ha s hs)) (fun s hs => ⟨?_, ?_⟩)]
  ·show t.foldl eV (eV o x) = (a ++ b).foldl eV (eV o x)
   refine aLi t (a ++ b) (eV o x) hp' h1.2 (h2.sublist ?_) (fun s hs => hl s (by simp [hs])) (aES hx ho)
   exact (List.Sublist.refl a).append (List.sublist_cons_self x b)
  ·rw [List.pairwise_append] at h2
   exact h2.2.2 s hs x (by simp)
  ·rcases List.mem_cons.1 (ha s hs) with rfl | q
   ·unfold ltW
    omega
   ·exact h1.1 s q
theorem aPv (l : List Seg) (h : fQ l) : (fW l).foldl eV [] = aDG l := by
 obtain ⟨h1, h2⟩ := aKs l [] List.Pairwise.nil
 rw [List.append_nil] at h1
 refine aLi (fW l) (aKt l) [] ((sK l).trans h1.symm) ((aJB l).imp fun {a b} q r => q (aS0 r)) h2 (fun s hs => h s ((sK l).mem_iff.1 hs)) (fun s hs => by cases hs)
def rM : Nat → Nat → Nat → Canon UU := fun o b r => cond (Nat.beq b 0) ⟨[4, 13, 14, 15], [], [(.tmp 13, 121, .seg), (.tmp 4, 122, .seg)], [], []⟩ (⟨[], [], [], [], []⟩)
def lM (t14 t15 : Int) (bN aU : List Seg) : ASt UU := ⟨fun u => cond (Nat.beq u 4) (.osl 122 0) (cond (Nat.beq u 13) (.osl 121 0) (cond (Nat.beq u 14) (.int .i64 t14) (cond (Nat.beq u 15) (.int .i64 t15) (.any)))), fun u => cond (Nat.beq u 121) (some (.row .seg 0 bN)) (cond (Nat.beq u 122) (some (.row .seg 0 aU)) (none))⟩
def aLG (a0 : List Seg) (Q : List Seg → Prop) (i0 : Int → Int → List Seg → List Seg → Prop) : Prop := ((a0.length ≤ 100000) ∧ ((fQ a0 ∧ a0.length ≤ 100000) ∧ i0 ((fW a0).length : Int) 0 (fW a0) ([])))
def aB3 (rec : Int → Int → List Seg → List Seg → Prop) (x0 : Int → Int → List Seg → List Seg → Prop) (t14 t15 : Int) (bN aU : List Seg) : Prop := cond (decide (t15 < t14)) (((0 ≤ t15 ∧ t15 < bN.length) ∧ cond (decide (0 < (aU.length : Int))) (((0 ≤ (aD ((aU.length : Int) - 1)) ∧ (aD ((aU.length : Int) - 1)) < aU.length) ∧ cond (((bN.getD t15.toNat default).Y1) == ((bN.getD t15.toNat default).Y2)) ((let v0 := (aU.getD ((aD ((aU.length : Int) - 1)).toNat) default).Y1; (let v1 := (aU.getD ((aD ((aU.length : Int) - 1)).toNat) default).Y2; cond (v0 == v1) ((let v2 := (aU.getD ((aD ((aU.length : Int) - 1)).toNat) default).Y1; cond (((bN.getD t15.toNat default).Y1) == v2) ((let v3 := (aU.getD ((aD ((aU.length : Int) - 1)).toNat) default).X2; cond (decide (((bN.getD t15.toNat default).X1) ≤ v3)) ((let v4 := (aU.getD ((aD ((aU.length : Int) - 1)).toNat) default).X2; rec t14 (aD (t15 + 1)) bN (aU.set ((aD ((aU.length : Int) - 1)).toNat) (Seg.mk ((aU.getD ((aD ((aU.length : Int) - 1)).toNat) default).X1) ((aU.getD ((aD ((aU.length : Int) - 1)).toNat) default).Y1) (ma v4 ((bN.getD t15.toNat default).X2)) ((aU.getD ((aD ((aU.length : Int) - 1)).toNat) default).Y2))))) (cond (((bN.getD t15.toNat default).X1) == ((bN.getD t15.toNat default).X2)) ((let v5 := (aU.getD ((aD ((aU.length : Int) - 1)).toNat) default).X1; (let v6 := (aU.getD ((aD ((aU.length : Int) - 1)).toNat) default).X2; cond (v5 == v6) ((let v7 := (aU.getD ((aD ((aU.length : Int) - 1)).toNat) default).X1; cond (((bN.getD t15.toNat default).X1) == v7) ((let v8 := (aU.getD ((aD ((aU.length : Int) - 1)).toNat) default).Y2; cond (decide (((bN.getD t15.toNat default).Y1) ≤ v8)) ((let v9 := (aU.getD ((aD ((aU.length : Int) - 1)).toNat) default).Y2; rec t14 (aD (t15 + 1)) bN (aU.set ((aD ((aU.length : Int) - 1)).toNat) (Seg.mk ((aU.getD ((aD ((aU.length : Int) - 1)).toNat) default).X1) ((aU.getD ((aD ((aU.length : Int) - 1)).toNat) default).Y1) ((aU.getD ((aD ((aU.length : Int) - 1)).toNat) default).X2) (ma v9 ((bN.getD t15.toNat default).Y2)))))) ((((aU.length + ([(bN.getD t15.toNat default)]).length) * 32 ≤ 140737488355328) ∧ rec t14 (aD (t15 + 1)) bN (aU ++ ([(bN.getD t15.toNat default)])))))) ((((aU.length + ([(bN.getD t15.toNat default)]).length) * 32 ≤ 140737488355328) ∧ rec t14 (aD (t15 + 1)) bN (aU ++ ([(bN.getD t15.toNat default)])))))) ((((aU.length + ([(bN.getD t15.toNat default)]).length) * 32 ≤ 140737488355328) ∧ rec t14 (aD (t15 + 1)) bN (aU ++ ([(bN.getD t15.toNat default)]))))))) ((((aU.length + ([(bN.getD t15.toNat default)]).length) * 32 ≤ 140737488355328) ∧ rec t14 (aD (t15 + 1)) bN (aU ++ ([(bN.getD t15.toNat default)]))))))) (cond (((bN.getD t15.toNat default).X1) == ((bN.getD t15.toNat default).X2)) ((let v10 := (aU.getD ((aD ((aU.length : Int) - 1)).toNat) default).X1; (let v11 := (aU.getD ((aD ((aU.length : Int) - 1)).toNat) default).X2; cond (v10 == v11) ((let v12 := (aU.getD ((aD ((aU.length : Int) - 1)).toNat) default).X1; cond (((bN.getD t15.toNat default).X1) == v12) ((let v13 := (aU.getD ((aD ((aU.length : Int) - 1)).toNat) default).Y2; cond (decide (((bN.getD t15.toNat default).Y1) ≤ v13)) ((let v14 := (aU.getD ((aD ((aU.length : Int) - 1)).toNat) default).Y2; rec t14 (aD (t15 + 1)) bN (aU.set ((aD ((aU.length : Int) - 1)).toNat) (Seg.mk ((aU.getD ((aD ((aU.length : Int) - 1)).toNat) default).X1) ((aU.getD ((aD ((aU.length : Int) - 1)).toNat) default).Y1) ((aU.getD ((aD ((aU.length : Int) - 1)).toNat) default).X2) (ma v14 ((bN.getD t15.toNat default).Y2)))))) ((((aU.length + ([(bN.getD t15.toNat default)]).length) * 32 ≤ 140737488355328) ∧ rec t14 (aD (t15 + 1)) bN (aU ++ ([(bN.getD t15.toNat default)])))))) ((((aU.length + ([(bN.getD t15.toNat default)]).length) * 32 ≤ 140737488355328) ∧ rec t14 (aD (t15 + 1)) bN (aU ++ ([(bN.getD t15.toNat default)])))))) ((((aU.length + ([(bN.getD t15.toNat default)]).length) * 32 ≤ 140737488355328) ∧ rec t14 (aD (t15 + 1)) bN (aU ++ ([(bN.getD t15.toNat default)]))))))) ((((aU.length + ([(bN.getD t15.toNat default)]).length) * 32 ≤ 140737488355328) ∧ rec t14 (aD (t15 + 1)) bN (aU ++ ([(bN.getD t15.toNat default)]))))))) (cond (((bN.getD t15.toNat default).X1) == ((bN.getD t15.toNat default).X2)) ((let v15 := (aU.getD ((aD ((aU.length : Int) - 1)).toNat) default).X1; (let v16 := (aU.getD ((aD ((aU.length : Int) - 1)).toNat) default).X2; cond (v15 == v16) ((let v17 := (aU.getD ((aD ((aU.length : Int) - 1)).toNat) default).X1; cond (((bN.getD t15.toNat default).X1) == v17) ((let v18 := (aU.getD ((aD ((aU.length : Int) - 1)).toNat) default).Y2; cond (decide (((bN.getD t15.toNat default).Y1) ≤ v18)) ((let v19 := (aU.getD ((aD ((aU.length : Int) - 1)).toNat) default).Y2; rec t14 (aD (t15 + 1)) bN (aU.set ((aD ((aU.length : Int) - 1)).toNat) (Seg.mk ((aU.getD ((aD ((aU.length : Int) - 1)).toNat) default).X1) ((aU.getD ((aD ((aU.length : Int) - 1)).toNat) default).Y1) ((aU.getD ((aD ((aU.length : Int) - 1)).toNat) default).X2) (ma v19 ((bN.getD t15.toNat default).Y2)))))) ((((aU.length + ([(bN.getD t15.toNat default)]).length) * 32 ≤ 140737488355328) ∧ rec t14 (aD (t15 + 1)) bN (aU ++ ([(bN.getD t15.toNat default)])))))) ((((aU.length + ([(bN.getD t15.toNat default)]).length) * 32 ≤ 140737488355328) ∧ rec t14 (aD (t15 + 1)) bN (aU ++ ([(bN.getD t15.toNat default)])))))) ((((aU.length + ([(bN.getD t15.toNat default)]).length) * 32 ≤ 140737488355328) ∧ rec t14 (aD (t15 + 1)) bN (aU ++ ([(bN.getD t15.toNat default)]))))))) ((((aU.length + ([(bN.getD t15.toNat default)]).length) * 32 ≤ 140737488355328) ∧ rec t14 (aD (t15 + 1)) bN (aU ++ ([(bN.getD t15.toNat default)])))))))) (cond (((bN.getD t15.toNat default).X1) == ((bN.getD t15.toNat default).X2)) ((let v20 := (aU.getD ((aD ((aU.length : Int) - 1)).toNat) default).X1; (let v21 := (aU.getD ((aD ((aU.length : Int) - 1)).toNat) default).X2; cond (v20 == v21) ((let v22 := (aU.getD ((aD ((aU.length : Int) - 1)).toNat) default).X1; cond (((bN.getD t15.toNat default).X1) == v22) ((let v23 := (aU.getD ((aD ((aU.length : Int) - 1)).toNat) default).Y2; cond (decide (((bN.getD t15.toNat default).Y1) ≤ v23)) ((let v24 := (aU.getD ((aD ((aU.length : Int) - 1)).toNat) default).Y2; rec t14 (aD (t15 + 1)) bN (aU.set ((aD ((aU.length : Int) - 1)).toNat) (Seg.mk ((aU.getD ((aD ((aU.length : Int) - 1)).toNat) default).X1) ((aU.getD ((aD ((aU.length : Int) - 1)).toNat) default).Y1) ((aU.getD ((aD ((aU.length : Int) - 1)).toNat) default).X2) (ma v24 ((bN.getD t15.toNat default).Y2)))))) ((((aU.length + ([(bN.getD t15.toNat default)]).length) * 32 ≤ 140737488355328) ∧ rec t14 (aD (t15 + 1)) bN (aU ++ ([(bN.getD t15.toNat default)])))))) ((((aU.length + ([(bN.getD t15.toNat default)]).length) * 32 ≤ 140737488355328) ∧ rec t14 (aD (t15 + 1)) bN (aU ++ ([(bN.getD t15.toNat default)])))))) ((((aU.length + ([(bN.getD t15.toNat default)]).length) * 32 ≤ 140737488355328) ∧ rec t14 (aD (t15 + 1)) bN (aU ++ ([(bN.getD t15.toNat default)]))))))) ((((aU.length + ([(bN.getD t15.toNat default)]).length) * 32 ≤ 140737488355328) ∧ rec t14 (aD (t15 + 1)) bN (aU ++ ([(bN.getD t15.toNat default)]))))))) ((((aU.length + ([(bN.getD t15.toNat default)]).length) * 32 ≤ 140737488355328) ∧ rec t14 (aD (t15 + 1)) bN (aU ++ ([(bN.getD t15.toNat default)])))))) (x0 t14 t15 bN aU)
def aFC (Q : List Seg → Prop) (t14 t15 : Int) (bN aU : List Seg) : Prop := Q aU
def pT (F : Nat) (x0 : Int → Int → List Seg → List Seg → Prop) : Nat → Int → Int → List Seg → List Seg → Prop
 | 0, _, _, _, _ => False
 | n + 1, t14, t15, bN, aU => aB3 (pT F x0 n) x0 t14 t15 bN aU
def aEC (F : Nat) (Q : List Seg → Prop) (t14 t15 : Int) (bN aU : List Seg) : Prop := pT F (fun t14 t15 bN aU => aFC Q t14 t15 bN aU) F t14 t15 bN aU
def aIA (F : Nat) (a0 : List Seg) (Q : List Seg → Prop) : Prop := aLG a0 Q (aEC F Q)
def aD9 (l : List Seg) : Prop := fQ l ∧ l.length ≤ 100000
def aDE (l : List Seg) : List Seg := aNQ l
theorem xH {a b : Int} (h : a = b) : (a == b) = true := beq_iff_eq.2 h
theorem xI {a b : Int} (h : ¬ a = b) : (a == b) = false := beq_eq_false_iff_ne.2 h
theorem aS2 (F : Nat) (x0 : Int → Int → List Seg → List Seg → Prop) (l : List Seg) (hl : l.length ≤ 100000) (hp : fQ l) : ∀ (n i : Nat) (out : List Seg), i ≤ l.length → l.length < n + i → out.length ≤ i → fQ out → x0 l.length l.length l ((l.drop i).foldl eV out) →
  pT F x0 n l.length i l out := by
 intro n
 induction n with
 | zero => intro i out h1 h2; omega
 | succ n ih =>
  intro i out h1 h2 ho hpo hx
  show aB3 _ _ _ _ _ _
  unfold aB3
  by_cases h : i < l.length
  ·rw [eN (show (i : Int) < l.length by omega), cond_true, Int.toNat_natCast, lK h (by omega)]
   have hxp : fC (l.getD i default) := hp _ (by rw [List.getD_eq_getElem?_getD, List.getElem?_eq_getElem h]; exact List.getElem_mem h)
   rw [oF l i h, List.foldl_cons] at hx
   generalize l.getD i default = x at hx hxp ⊢
   refine ⟨⟨by omega, by omega⟩, ?_⟩
   have hms : fQ (eV out x) := aES hxp hpo
   rcases List.eq_nil_or_concat out with rfl | ⟨a, y, rfl⟩
   ·rw [eT (by decide), cond_false]
    have app : (([] : List Seg).length + [x].length) * 32 ≤ 140737488355328 ∧ pT F x0 n l.length ((i + 1 : Nat) : Int) l ([] ++ [x]) :=
     ⟨by simp, ih (i + 1) _ (by omega) (by omega) (by simp) hms hx⟩
    exact app
   ·rw [List.concat_eq_append] at ho hx hpo hms ⊢
    have hlo : (a ++ [y]).length = a.length + 1 := by simp
    rw [hlo] at ho
    have e0 : aD (((a ++ [y]).length : Int) - 1) = (a.length : Int) := by
     rw [aNM (by rw [hlo]; omega) (by rw [hlo]; omega), hlo]
     rfl
    rw [e0, eN (show (0 : Int) < ((a ++ [y]).length : Int) by rw [hlo]; omega), cond_true]
    have g1 : (a ++ [y]).getD (a.length : Int).toNat default = y := by rw [Int.toNat_natCast]; exact aUY a y []
    have s1 : ∀ z : Seg, (a ++ [y]).set (a.length : Int).toNat z = a ++ [z] := fun z => by rw [Int.toNat_natCast]; exact aOP a y z []
    dsimp only
    simp only [g1, s1]
    have hyp : fC y := hpo y (by simp)
    have hs := aSL a y x
    refine ⟨⟨by omega, by rw [hlo]; omega⟩, ?_⟩
    have app : eX y x = false → ((a ++ [y]).length + [x].length) * 32 ≤ 140737488355328 ∧ pT F x0 n l.length ((i + 1 : Nat) : Int) l ((a ++ [y]) ++ [x]) := fun hj => by
     rw [hj] at hs
     rw [hs] at hx hms
     refine ⟨by simp; omega, ih (i + 1) _ (by omega) (by omega) (by simp; omega) ?_ ?_⟩
     ·simpa using hms
     ·simpa using hx
    have put : eX y x = true → ∀ z, z = eK y x → pT F x0 n l.length ((i + 1 : Nat) : Int) l (a ++ [z]) := fun hj z hz => by
     rw [hj] at hs
     rw [hs] at hx hms
     subst hz
     exact ih (i + 1) _ (by omega) (by omega) (by simp; omega) hms hx
    rcases sL hxp with ⟨e1, e2⟩ | ⟨e1, e2⟩
    ·rw [xH e1, xI (show ¬ x.X1 = x.X2 by omega)]
     simp only [cond_true, cond_false]
     by_cases c1 : y.Y1 = y.Y2
     ·rw [xH c1, cond_true]
      by_cases c2 : x.Y1 = y.Y1
      ·rw [xH c2, cond_true]
       by_cases c3 : x.X1 ≤ y.X2
       ·rw [eN c3, cond_true]
        refine put ((oC hyp e1 e2).2 ⟨c1, by rcases sL hyp with q | q <;> omega, c2.symm, c3⟩) _ (vY rfl rfl rfl ?_)
        show y.Y2 = ma y.Y2 x.Y2
        rw [show x.Y2 = y.Y2 by omega, aBE]
       ·rw [eT c3, cond_false]
        exact app (Bool.eq_false_iff.2 fun q => c3 ((oC hyp e1 e2).1 q).2.2.2)
      ·rw [xI c2, cond_false]
       exact app (Bool.eq_false_iff.2 fun q => c2 ((oC hyp e1 e2).1 q).2.2.1.symm)
     ·rw [xI c1, cond_false]
      exact app (Bool.eq_false_iff.2 fun q => c1 ((oC hyp e1 e2).1 q).1)
    ·rw [xH e1, xI (show ¬ x.Y1 = x.Y2 by omega)]
     simp only [cond_true, cond_false]
     by_cases c1 : y.X1 = y.X2
     ·rw [xH c1, cond_true]
      by_cases c2 : x.X1 = y.X1
      ·rw [xH c2, cond_true]
       by_cases c3 : x.Y1 ≤ y.Y2
       ·rw [eN c3, cond_true]
        refine put ((oB hyp e1 e2).2 ⟨c1, by rcases sL hyp with q | q <;> omega, c2.symm, c3⟩) _ (vY rfl rfl ?_ rfl)
        show y.X2 = ma y.X2 x.X2
        rw [show x.X2 = y.X2 by omega, aBE]
       ·rw [eT c3, cond_false]
        exact app (Bool.eq_false_iff.2 fun q => c3 ((oB hyp e1 e2).1 q).2.2.2)
      ·rw [xI c2, cond_false]
       exact app (Bool.eq_false_iff.2 fun q => c2 ((oB hyp e1 e2).1 q).2.2.1.symm)
     ·rw [xI c1, cond_false]
      exact app (Bool.eq_false_iff.2 fun q => c1 ((oB hyp e1 e2).1 q).1)
  ·have e : i = l.length := by omega
   subst e
   rw [eT (by omega), cond_false]
   rw [List.drop_length] at hx
   exact hx
theorem aQn (a0 : List Seg) (h : aD9 a0) : ∃ F, ∀ Q : List Seg → Prop, Q (aDE a0) → aIA F a0 Q := by
 refine ⟨a0.length + 1, fun Q hQ => ?_⟩
 have hlen : (fW a0).length = a0.length := (sK a0).length_eq
 refine ⟨h.2, h, ?_⟩
 refine aS2 _ _ (fW a0) (by rw [hlen]; exact h.2) (fun s hs => h.1 s ((sK a0).mem_iff.1 hs)) _ 0 [] (by omega) (by rw [hlen]; omega) (by simp) (fun s hs => by cases hs) ?_
 show Q (((fW a0).drop 0).foldl eV [])
 rw [List.drop_zero, aPv a0 h.1]
 exact hQ
def rK : Nat → Nat → Nat → Canon UU := fun o b r => cond (Nat.beq o 0 && Nat.beq b 0) ⟨[4, 5, 7, 24, 25, 26], [4, 23], [(.cell 23 11, 50, .rect), (.cell 23 10, 51, .seg)], [], []⟩ (⟨[], [], [], [], []⟩)
def iK (t5 : Int) (t24 : List Opn) (t25 t26 : Int) (cX cW : ByteArray) (cV cU cP cO : Int) (cK cT : List aQ) (cZ cY : Int) (cQ : List aQ) (cM : List Seg) : ASt UU := ⟨fun u => cond (Nat.beq u 4) (.ptr 4 0) (cond (Nat.beq u 5) (.int .i64 t5) (cond (Nat.beq u 7) (.ptr 23 0) (cond (Nat.beq u 24) (.sl .op t24) (cond (Nat.beq u 25) (.int .i64 t25) (cond (Nat.beq u 26) (.int .i64 t26) (.any)))))), fun u => cond (Nat.beq u 50) (some (.row .rect 0 cQ)) (cond (Nat.beq u 51) (some (.row .seg 0 cM)) (cond (Nat.beq u 4) (some (.cells [.nils, .nils])) (cond (Nat.beq u 23) (some (.cells [.str cX, .str cW, .int .i64 cV, .int .i64 cU, .int .i64 cP, .int .i64 cO, .sl .rect cK, .sl .rect cT, .int .i64 cZ, .int .i64 cY, .osl 51 0, .osl 50 0])) (none))))⟩
def aEx (qf qg : ByteArray) (qh qi qc qd : Int) (qb qe : List aQ) (a1 : List Opn) (Q : List Seg → List aQ → Int → Prop) (i0 : Int → List Opn → Int → Int → ByteArray → ByteArray → Int → Int → Int → Int → List aQ → List aQ → Int → Int → List aQ → List Seg → Prop) : Prop := (let r0 := (pX qf qg qh qi qc qd qb qe); cond (r0 != 0) (Q ([]) ([]) r0) (cond (decide (4000 < (a1.length : Int))) (Q ([]) ([]) 4) (i0 0 a1 (a1.length : Int) 0 qf qg qh qi qc qd qb qe 0 0 ([]) ([]))))
def aBZ (rec : Int → List Opn → Int → Int → ByteArray → ByteArray → Int → Int → Int → Int → List aQ → List aQ → Int → Int → List aQ → List Seg → Prop) (x0 : Int → List Opn → Int → Int → ByteArray → ByteArray → Int → Int → Int → Int → List aQ → List aQ → Int → Int → List aQ → List Seg → Prop) (x1 : Int → List Opn → Int → Int → ByteArray → ByteArray → Int → Int → Int → Int → List aQ → List aQ → Int → Int → List aQ → List Seg → Prop) (t5 : Int) (t24 : List Opn) (t25 t26 : Int) (cX cW : ByteArray) (cV cU cP cO : Int) (cK cT : List aQ) (cZ cY : Int) (cQ : List aQ) (cM : List Seg) : Prop := cond (decide (t26 < t25)) ((let e0 := (t24.getD t26.toNat default); ((0 ≤ t26 ∧ t26 < t24.length) ∧ cond (e0.Kind == 3) (cond (!(kF e0.X e0.Y e0.W e0.H)) (x0 16 t24 t25 t26 cX cW cV cU cP cO cK cT cZ cY cQ cM) ((let r1 := (qA e0.X e0.Y e0.W e0.H 0 0 cP cO); cond (!r1) (x0 16 t24 t25 t26 cX cW cV cU cP cO cK cT cZ cY cQ cM) ((((cQ.length + ([(aQ.mk e0.X e0.Y e0.W e0.H)]).length) * 32 ≤ 140737488355328) ∧ rec t5 t24 t25 (aD (t26 + 1)) cX cW cV cU cP cO cK cT cZ cY (cQ ++ ([(aQ.mk e0.X e0.Y e0.W e0.H)])) cM))))) (cond (e0.Kind == 1) ((let r2 := (pV cX cW cV cU cP cO cK cT e0.X e0.Y); cond (!r2) (x0 16 t24 t25 t26 cX cW cV cU cP cO cK cT cZ cY cQ cM) (cond (e0.Kind != 1) ((let r3 := (eU cZ cY e0.X e0.Y); (let r4 := (qB cK r3.1 r3.2.1 r3.2.2.1 r3.2.2.2); ((((r3.1 == r3.2.2.1) == (r3.2.1 == r3.2.2.2)) = false → sN cK r3.1 r3.2.1 r3.2.2.1 r3.2.2.2) ∧ cond (((r3.1 == r3.2.2.1) == (r3.2.1 == r3.2.2.2)) || r4) (x0 16 t24 t25 t26 cX cW cV cU cP cO cK cT cZ cY cQ cM) ((((cM.length + ([(Seg.mk r3.1 r3.2.1 r3.2.2.1 r3.2.2.2)]).length) * 32 ≤ 140737488355328) ∧ rec t5 t24 t25 (aD (t26 + 1)) cX cW cV cU cP cO cK cT e0.X e0.Y cQ (cM ++ ([(Seg.mk r3.1 r3.2.1 r3.2.2.1 r3.2.2.2)])))))))) (rec t5 t24 t25 (aD (t26 + 1)) cX cW cV cU cP cO cK cT e0.X e0.Y cQ cM)))) (cond (e0.Kind == 2) ((let r5 := (pV cX cW cV cU cP cO cK cT e0.X e0.Y); cond (!r5) (x0 16 t24 t25 t26 cX cW cV cU cP cO cK cT cZ cY cQ cM) (cond (e0.Kind != 1) ((let r6 := (eU cZ cY e0.X e0.Y); (let r7 := (qB cK r6.1 r6.2.1 r6.2.2.1 r6.2.2.2); ((((r6.1 == r6.2.2.1) == (r6.2.1 == r6.2.2.2)) = false → sN cK r6.1 r6.2.1 r6.2.2.1 r6.2.2.2) ∧ cond (((r6.1 == r6.2.2.1) == (r6.2.1 == r6.2.2.2)) || r7) (x0 16 t24 t25 t26 cX cW cV cU cP cO cK cT cZ cY cQ cM) ((((cM.length + ([(Seg.mk r6.1 r6.2.1 r6.2.2.1 r6.2.2.2)]).length) * 32 ≤ 140737488355328) ∧ rec t5 t24 t25 (aD (t26 + 1)) cX cW cV cU cP cO cK cT e0.X e0.Y cQ (cM ++ ([(Seg.mk r6.1 r6.2.1 r6.2.2.1 r6.2.2.2)])))))))) (rec t5 t24 t25 (aD (t26 + 1)) cX cW cV cU cP cO cK cT e0.X e0.Y cQ cM)))) (cond (e0.Kind == 4) ((let r8 := (pV cX cW cV cU cP cO cK cT e0.X e0.Y); cond (!r8) (x0 16 t24 t25 t26 cX cW cV cU cP cO cK cT cZ cY cQ cM) (cond (e0.Kind != 1) ((let r9 := (eU cZ cY e0.X e0.Y); (let r10 := (qB cK r9.1 r9.2.1 r9.2.2.1 r9.2.2.2); ((((r9.1 == r9.2.2.1) == (r9.2.1 == r9.2.2.2)) = false → sN cK r9.1 r9.2.1 r9.2.2.1 r9.2.2.2) ∧ cond (((r9.1 == r9.2.2.1) == (r9.2.1 == r9.2.2.2)) || r10) (x0 16 t24 t25 t26 cX cW cV cU cP cO cK cT cZ cY cQ cM) ((((cM.length + ([(Seg.mk r9.1 r9.2.1 r9.2.2.1 r9.2.2.2)]).length) * 32 ≤ 140737488355328) ∧ rec t5 t24 t25 (aD (t26 + 1)) cX cW cV cU cP cO cK cT e0.X e0.Y cQ (cM ++ ([(Seg.mk r9.1 r9.2.1 r9.2.2.1 r9.2.2.2)])))))))) (rec t5 t24 t25 (aD (t26 + 1)) cX cW cV cU cP cO cK cT e0.X e0.Y cQ cM)))) (x0 16 t24 t25 t26 cX cW cV cU cP cO cK cT cZ cY cQ cM))))))) (x1 t5 t24 t25 t26 cX cW cV cU cP cO cK cT cZ cY cQ cM)
def aEz (Q : List Seg → List aQ → Int → Prop) (t5 : Int) (t24 : List Opn) (t25 t26 : Int) (cX cW : ByteArray) (cV cU cP cO : Int) (cK cT : List aQ) (cZ cY : Int) (cQ : List aQ) (cM : List Seg) : Prop := Q ([]) ([]) t5
def aEy (Q : List Seg → List aQ → Int → Prop) (t5 : Int) (t24 : List Opn) (t25 t26 : Int) (cX cW : ByteArray) (cV cU cP cO : Int) (cK cT : List aQ) (cZ cY : Int) (cQ : List aQ) (cM : List Seg) : Prop := ((aD9 cM) ∧ ((cQ.length ≤ 100000) ∧ Q (aDE cM) cQ 0))
def vJ (F : Nat) (x0 : Int → List Opn → Int → Int → ByteArray → ByteArray → Int → Int → Int → Int → List aQ → List aQ → Int → Int → List aQ → List Seg → Prop) (x1 : Int → List Opn → Int → Int → ByteArray → ByteArray → Int → Int → Int → Int → List aQ → List aQ → Int → Int → List aQ → List Seg → Prop) : Nat → Int → List Opn → Int → Int → ByteArray → ByteArray → Int → Int → Int → Int → List aQ → List aQ → Int → Int → List aQ → List Seg → Prop
 | 0, _, _, _, _, _, _, _, _, _, _, _, _, _, _, _, _ => False
 | n + 1, t5, t24, t25, t26, cX, cW, cV, cU, cP, cO, cK, cT, cZ, cY, cQ, cM => aBZ (vJ F x0 x1 n) x0 x1 t5 t24 t25 t26 cX cW cV cU cP cO cK cT cZ cY cQ cM
def aEA (F : Nat) (Q : List Seg → List aQ → Int → Prop) (t5 : Int) (t24 : List Opn) (t25 t26 : Int) (cX cW : ByteArray) (cV cU cP cO : Int) (cK cT : List aQ) (cZ cY : Int) (cQ : List aQ) (cM : List Seg) : Prop := vJ F (fun t5 t24 t25 t26 cX cW cV cU cP cO cK cT cZ cY cQ cM => aEz Q t5 t24 t25 t26 cX cW cV cU cP cO cK cT cZ cY cQ cM) (fun t5 t24 t25 t26 cX cW cV cU cP cO cK cT cZ cY cQ cM => aEy Q t5 t24 t25 t26 cX cW cV cU cP cO cK cT cZ cY cQ cM) F t5 t24 t25 t26 cX cW cV cU cP cO cK cT cZ cY cQ cM
def aCV (F : Nat) (qf qg : ByteArray) (qh qi qc qd : Int) (qb qe : List aQ) (a1 : List Opn) (Q : List Seg → List aQ → Int → Prop) : Prop := aEx qf qg qh qi qc qd qb qe a1 Q (aEA F Q)
theorem aCz (a b c d : Int) : kF a b c d = mL a b c d := by
 have hz : aD (0 - 1048576) = -1048576 := by rw [fU (by omega) (by omega)]; rfl
 rw [Bool.eq_iff_iff]
 unfold kF pW vV mL kG
 rw [hz, Bool.cond_eq_ite]
 constructor
 ·intro q
  simp only [Bool.and_eq_true, decide_eq_true_eq] at q
  obtain ⟨⟨⟨⟨⟨q1, q2⟩, q3⟩, q4⟩, q5⟩, ⟨⟨⟨p1, p2⟩, p3⟩, p4⟩, p5⟩ := q
  rw [fU (n := a + c) (by omega) (by omega)] at q5 ⊢
  rw [fU (n := b + d) (by omega) (by omega)] at p5 ⊢
  rw [eN q1, eN q2, eN p1, eN p2, eT (show ¬ c < 1 by omega), eT (show ¬ d < 1 by omega), eT (show ¬ 2097152 < c by omega), eT (show ¬ 2097152 < d by omega), eN q5, eN p5, eN (show -1048576 ≤ a + c by omega), eN (show -1048576 ≤ b + d by omega)]
  rfl
 ·intro q
  split at q
  ·cases q
  ·rename_i e
   simp only [Bool.or_eq_true, Bool.not_eq_true', decide_eq_true_eq, not_or, Bool.and_eq_false_iff, decide_eq_false_iff_not, Int.not_lt, Int.not_le, Bool.and_eq_true] at e q
   obtain ⟨⟨⟨⟨⟨e1, e2⟩, e3⟩, e4⟩, e5⟩, e6⟩ := e
   simp only [Bool.and_eq_true, decide_eq_true_eq]
   omega
theorem aTq (a b c d x y w h : Int) : qA a b c d x y w h = nU a b c d x y w h := by
 unfold qA nU
 rw [aCz, aCz]
 rw [Bool.eq_iff_iff]
 simp only [Bool.and_eq_true]
 constructor
 ·rintro ⟨⟨⟨⟨⟨p, q⟩, r⟩, s⟩, t⟩, u⟩
  exact ⟨⟨⟨⟨⟨p, q⟩, r⟩, t⟩, s⟩, u⟩
 ·rintro ⟨⟨⟨⟨⟨p, q⟩, r⟩, t⟩, s⟩, u⟩
  exact ⟨⟨⟨⟨⟨p, q⟩, r⟩, s⟩, t⟩, u⟩
def onB (w h x y : Int) : Bool := ((((decide (0 ≤ x)) && (decide (0 ≤ y))) && (decide (x ≤ w))) && (decide (y ≤ h)))
theorem aOO (nm mt : ByteArray) (g gr w h : Int) (cl us : List aQ) (x y : Int) : pV nm mt g gr w h cl us x y = onB w h x y := by
 unfold pV onB
 rw [Bool.eq_iff_iff]
 simp only [Bool.and_eq_true]
 constructor
 ·rintro ⟨⟨⟨p, q⟩, r⟩, s⟩
  exact ⟨⟨⟨p, r⟩, q⟩, s⟩
 ·rintro ⟨⟨⟨p, r⟩, q⟩, s⟩
  exact ⟨⟨⟨p, q⟩, r⟩, s⟩
theorem aYm (l : List aQ) (a b c d : Int) : qB l a b c d = l.any (sB a b c d) := aKz (sB a b c d) l 0 (by omega)
theorem aJ0 (a b : Int) : mi a b ≤ ma a b := by
 unfold mi ma
 split <;> split <;> omega
theorem aBA (a b : Int) : (mi a b == ma a b) = (a == b) := by
 rw [Bool.eq_iff_iff]
 simp only [beq_iff_eq]
 unfold mi ma
 constructor
 ·intro h
  split at h <;> split at h <;> omega
 ·intro h
  split <;> split <;> omega
abbrev CSt := Int × Int × List Seg × List aQ
def oH (x y a b : Int) : Bool := !((x == a) == (y == b))
def kH (x y a b : Int) : Seg := Seg.mk (mi x a) (mi y b) (ma x a) (ma y b)
def oR (s : Seg) (r : aQ) : Bool := sB s.X1 s.Y1 s.X2 s.Y2 r
def opC (w h : Int) (cl : List aQ) (o : Opn) (s : CSt) : Option CSt :=
 cond (o.Kind == 3) (cond (nU o.X o.Y o.W o.H 0 0 w h) (some (s.1, s.2.1, s.2.2.1, s.2.2.2 ++ [aQ.mk o.X o.Y o.W o.H])) none)
  (cond ((((o.Kind == 1) || (o.Kind == 2)) || (o.Kind == 4)) && onB w h o.X o.Y)
   (cond (o.Kind == 1) (some (o.X, o.Y, s.2.2.1, s.2.2.2))
    (cond (oH s.1 s.2.1 o.X o.Y && !(cl.any (oR (kH s.1 s.2.1 o.X o.Y)))) (some (o.X, o.Y, s.2.2.1 ++ [kH s.1 s.2.1 o.X o.Y], s.2.2.2)) none))
   none)
def sO (w h : Int) (cl : List aQ) : List Opn → CSt → Option CSt
 | [], s => some s
 | o :: r, s => (opC w h cl o s).bind (sO w h cl r)
def aIn (w h : Int) (cl : List aQ) (ops : List Opn) : List Seg × List aQ × Int :=
 match sO w h cl ops (0, 0, [], []) with
 | none => ([], [], 16)
 | some s => (aDG s.2.2.1, s.2.2.2, 0)
def oS (nm mt : ByteArray) (g gr w h : Int) (cl us : List aQ) (ops : List Opn) : List Seg × List aQ × Int :=
 cond (pX nm mt g gr w h cl us != 0) ([], [], pX nm mt g gr w h cl us) (cond (decide (4000 < (ops.length : Int))) ([], [], 4) (aIn w h cl ops))
def aD7 (nm mt : ByteArray) (g gr w h : Int) (cl us : List aQ) (ops : List Opn) : Prop := True
theorem aQb (w h : Int) (cl : List aQ) (o : Opn) (s t : CSt) (e : opC w h cl o s = some t) (hs : fQ s.2.2.1) : fQ t.2.2.1 ∧ t.2.2.1.length ≤ s.2.2.1.length + 1 ∧ t.2.2.2.length ≤ s.2.2.2.length + 1 := by
 obtain ⟨x, y, ls, st⟩ := s
 unfold opC at e
 cases h3 : (o.Kind == 3) with
 | true =>
  rw [h3, cond_true] at e
  cases hw : nU o.X o.Y o.W o.H 0 0 w h with
  | false => rw [hw] at e; cases e
  | true =>
   rw [hw] at e
   cases e
   exact ⟨hs, by simp, by simp⟩
 | false =>
  rw [h3, cond_false] at e
  cases h4 : ((((o.Kind == 1) || (o.Kind == 2)) || (o.Kind == 4)) && onB w h o.X o.Y) with
  | false => rw [h4] at e; cases e
  | true =>
   rw [h4, cond_true] at e
   cases h5 : (o.Kind == 1) with
   | true =>
    rw [h5] at e
    cases e
    exact ⟨hs, by simp, by simp⟩
   | false =>
    rw [h5, cond_false] at e
    cases h6 : (oH x y o.X o.Y && !(cl.any (oR (kH x y o.X o.Y)))) with
    | false => 
     have e' : cond (oH x y o.X o.Y && !(cl.any (oR (kH x y o.X o.Y)))) (some (o.X, o.Y, ls ++ [kH x y o.X o.Y], st)) none = some t := e
     rw [h6] at e'
     cases e'
    | true =>
     have e' : cond (oH x y o.X o.Y && !(cl.any (oR (kH x y o.X o.Y)))) (some (o.X, o.Y, ls ++ [kH x y o.X o.Y], st)) none = some t := e
     rw [h6] at e'
     cases e'
     refine ⟨fun z hz => ?_, by simp, by simp⟩
     rcases List.mem_append.1 hz with q | q
     ·exact hs z q
     ·rw [List.mem_singleton.1 q]
      rw [Bool.and_eq_true] at h6
      have h7 := h6.1
      unfold oH at h7
      refine ⟨?_, aJ0 _ _, aJ0 _ _⟩
      show ((mi x o.X == ma x o.X) == (mi y o.Y == ma y o.Y)) = false
      rw [aBA, aBA]
      simpa using h7
theorem aJN (w h : Int) (cl : List aQ) : ∀ (l : List Opn) (s t : CSt), sO w h cl l s = some t → fQ s.2.2.1 → fQ t.2.2.1 ∧ t.2.2.1.length ≤ s.2.2.1.length + l.length ∧ t.2.2.2.length ≤ s.2.2.2.length + l.length
 | [], s, t, e, hs => by
  cases e
  exact ⟨hs, by simp, by simp⟩
 | o :: r, s, t, e, hs => by
  unfold sO at e
  cases h1 : opC w h cl o s with
  | none => rw [h1] at e; cases e
  | some u =>
   rw [h1] at e
   have h2 := aQb w h cl o s u h1 hs
   have h3 := aJN w h cl r u t e h2.1
   refine ⟨h3.1, ?_, ?_⟩ <;> simp only [List.length_cons] <;> omega
theorem b13 : ((1 : Int) == 3) = false := rfl
theorem b11 : ((1 : Int) == 1) = true := rfl
theorem b33 : ((3 : Int) == 3) = true := rfl
theorem aN2 (cl : List aQ) (x y a b : Int) : ((((eU x y a b).1 == (eU x y a b).2.2.1) == ((eU x y a b).2.1 == (eU x y a b).2.2.2)) || qB cl (eU x y a b).1 (eU x y a b).2.1 (eU x y a b).2.2.1 (eU x y a b).2.2.2) = !(oH x y a b && !(cl.any (oR (kH x y a b)))) := by
 rw [aYm]
 show (((mi x a == ma x a) == (mi y b == ma y b)) || cl.any (sB (mi x a) (mi y b) (ma x a) (ma y b))) = _
 rw [aBA, aBA]
 unfold oH oR kH
 cases ((x == a) == (y == b)) <;> simp
theorem aQa (w h : Int) (cl : List aQ) (k ox oy ow oh oN x y : Int) (ls : List Seg) (st : List aQ) (hk : (k == 3) = false) (qY : (k == 1) = false) (dU : (((k == 1) || (k == 2)) || (k == 4)) = true) :
  opC w h cl ⟨k, ox, oy, ow, oh, oN⟩ (x, y, ls, st) = cond (onB w h ox oy) (cond (oH x y ox oy && !(cl.any (oR (kH x y ox oy)))) (some (ox, oy, ls ++ [kH x y ox oy], st)) none) none := by
 unfold opC
 dsimp only
 rw [hk, cond_false, dU, Bool.true_and, qY, cond_false]
theorem aQ9 (w h : Int) (cl : List aQ) (ox oy ow oh oN x y : Int) (ls : List Seg) (st : List aQ) :
  opC w h cl ⟨1, ox, oy, ow, oh, oN⟩ (x, y, ls, st) = cond (onB w h ox oy) (some (ox, oy, ls, st)) none := by
 unfold opC
 dsimp only
 rw [b13, cond_false, b11, Bool.true_or, Bool.true_or, Bool.true_and, cond_true]
theorem aQ7 (w h : Int) (cl : List aQ) (ox oy ow oh oN x y : Int) (ls : List Seg) (st : List aQ) :
  opC w h cl ⟨3, ox, oy, ow, oh, oN⟩ (x, y, ls, st) = cond (nU ox oy ow oh 0 0 w h) (some (x, y, ls, st ++ [aQ.mk ox oy ow oh])) none := by
 unfold opC
 dsimp only
 rw [b33, cond_true]
theorem aQ8 (w h : Int) (cl : List aQ) (k ox oy ow oh oN : Int) (s : CSt) (hk : (k == 3) = false) (dU : (((k == 1) || (k == 2)) || (k == 4)) = false) :
  opC w h cl ⟨k, ox, oy, ow, oh, oN⟩ s = none := by
 unfold opC
 dsimp only
 rw [hk, cond_false, dU, Bool.false_and, cond_false]
theorem aS3 (F : Nat) (x0 x1 : Int → List Opn → Int → Int → ByteArray → ByteArray → Int → Int → Int → Int → List aQ → List aQ → Int → Int → List aQ → List Seg → Prop) (nm mt : ByteArray) (g gr w h : Int) (cl us : List aQ) (hcl : cl.length ≤ 1000000) (l : List Opn) (hl : l.length ≤ 4000) (t5 : Int) :
  ∀ (n i : Nat) (x y : Int) (ls : List Seg) (st : List aQ), i ≤ l.length → l.length < n + i → ls.length ≤ i → st.length ≤ i →
   (sO w h cl (l.drop i) (x, y, ls, st) = none → ∀ (j x y : Int) (ls : List Seg) (st : List aQ), x0 16 l l.length j nm mt g gr w h cl us x y st ls) →
   (∀ (x' y' : Int) (ls' : List Seg) (st' : List aQ), sO w h cl (l.drop i) (x, y, ls, st) = some (x', y', ls', st') → x1 t5 l l.length l.length nm mt g gr w h cl us x' y' st' ls') →
   vJ F x0 x1 n t5 l l.length i nm mt g gr w h cl us x y st ls := by
 intro n
 induction n with
 | zero => intro i x y ls st h1 h2; omega
 | succ n ih =>
  intro i x y ls st h1 h2 hls hst hX hY
  show aBZ _ _ _ t5 l l.length i nm mt g gr w h cl us x y st ls
  unfold aBZ
  by_cases hi : i < l.length
  ·rw [eN (show (i : Int) < l.length by omega), cond_true, Int.toNat_natCast, lK hi (by omega)]
   rw [oF l i hi] at hX hY
   unfold sO at hX hY
   generalize l.getD i default = o at hX hY ⊢
   obtain ⟨k, ox, oy, ow, oh, oN⟩ := o
   dsimp only at hX hY ⊢
   refine ⟨⟨by omega, by omega⟩, ?_⟩
   rw [aOO, aTq, aCz, aN2]
   have hrec : ∀ (x y : Int) (ls' : List Seg) (st' : List aQ), opC w h cl ⟨k, ox, oy, ow, oh, oN⟩ (x, y, ls, st) = opC w h cl ⟨k, ox, oy, ow, oh, oN⟩ (x, y, ls, st) := fun _ _ _ _ => rfl
   by_cases k3 : k = 3
   ·subst k3
    rw [b33, cond_true]
    rw [aQ7] at hX hY
    cases hv : nU ox oy ow oh 0 0 w h with
    | false =>
     rw [hv] at hX
     cases mL ox oy ow oh
     ·exact hX rfl _ _ _ _ _
     ·exact hX rfl _ _ _ _ _
    | true =>
     have hr : mL ox oy ow oh = true := by
      unfold nU at hv
      simp only [Bool.and_eq_true] at hv
      exact hv.1.1.1.1.1
     rw [hv] at hX hY
     rw [hr]
     refine ⟨by simp; omega, ih (i + 1) _ _ _ _ (by omega) (by omega) (by omega) (by simp; omega) hX hY⟩
   ·have n3 : (k == 3) = false := by simpa using k3
    rw [n3, cond_false]
    by_cases k1 : k = 1
    ·subst k1
     rw [b11, cond_true]
     rw [aQ9] at hX hY
     cases hv : onB w h ox oy with
     | false =>
      rw [hv] at hX
      exact hX rfl _ _ _ _ _
     | true =>
      rw [hv] at hX hY
      exact ih (i + 1) _ _ _ _ (by omega) (by omega) (by omega) (by omega) hX hY
    ·have n1 : (k == 1) = false := by simpa using k1
     have n1' : (k != 1) = true := by simpa using k1
     rw [n1, cond_false, n1']
     by_cases k24 : k = 2 ∨ k = 4
     ·have dU : (((k == 1) || (k == 2)) || (k == 4)) = true := by
       rcases k24 with rfl | rfl <;> rfl
      rw [aQa w h cl k ox oy ow oh oN x y ls st n3 n1 dU] at hX hY
      have hgoal : cond (!(onB w h ox oy)) (x0 16 l l.length i nm mt g gr w h cl us x y st ls)
         (((((eU x y ox oy).1 == (eU x y ox oy).2.2.1) == ((eU x y ox oy).2.1 == (eU x y ox oy).2.2.2)) = false → sN cl (eU x y ox oy).1 (eU x y ox oy).2.1 (eU x y ox oy).2.2.1 (eU x y ox oy).2.2.2) ∧
        cond (!(oH x y ox oy && !(cl.any (oR (kH x y ox oy))))) (x0 16 l l.length i nm mt g gr w h cl us x y st ls) (((ls.length + ([Seg.mk (eU x y ox oy).1 (eU x y ox oy).2.1 (eU x y ox oy).2.2.1 (eU x y ox oy).2.2.2]).length) * 32 ≤ 140737488355328) ∧ vJ F x0 x1 n t5 l l.length ((i + 1 : Nat) : Int) nm mt g gr w h cl us ox oy st (ls ++ [kH x y ox oy]))) := by
       cases hv : onB w h ox oy with
       | false =>
        rw [hv] at hX
        exact hX rfl _ _ _ _ _
       | true =>
        rw [hv, cond_true] at hX hY
        refine ⟨fun _ => hcl, ?_⟩
        cases hu : (oH x y ox oy && !(cl.any (oR (kH x y ox oy)))) with
        | false =>
         rw [hu] at hX
         exact hX rfl _ _ _ _ _
        | true =>
         rw [hu] at hX hY
         refine ⟨by simp; omega, ih (i + 1) _ _ _ _ (by omega) (by omega) (by simp; omega) (by omega) hX hY⟩
      rcases k24 with rfl | rfl
      ·exact hgoal
      ·exact hgoal
     ·have n2 : (k == 2) = false := by simp; omega
      have n4 : (k == 4) = false := by simp; omega
      rw [n2, cond_false, n4, cond_false]
      rw [aQ8 w h cl k ox oy ow oh oN _ n3 (by rw [n1, n2, n4]; rfl)] at hX
      exact hX rfl _ _ _ _ _
  ·have e : i = l.length := by omega
   subst e
   rw [eT (by omega), cond_false]
   rw [List.drop_length] at hY
   exact hY _ _ _ _ rfl
theorem aQk (qf : ByteArray) (qg : ByteArray) (qh : Int) (qi : Int) (qc : Int) (qd : Int) (qb : List aQ) (qe : List aQ) (a1 : List Opn) (h : aD7 qf qg qh qi qc qd qb qe a1) : ∃ F, ∀ Q : List Seg → List aQ → Int → Prop, Q ((oS qf qg qh qi qc qd qb qe a1).1) ((oS qf qg qh qi qc qd qb qe a1).2.1) ((oS qf qg qh qi qc qd qb qe a1).2.2) → aCV F qf qg qh qi qc qd qb qe a1 Q := by
 refine ⟨4001, fun Q hQ => ?_⟩
 unfold aCV aEx
 unfold oS at hQ
 dsimp only
 cases h1 : (pX qf qg qh qi qc qd qb qe != 0) with
 | true =>
  rw [h1] at hQ
  exact hQ
 | false =>
 rw [h1] at hQ
 simp only [cond_false] at hQ ⊢
 have hcl : qb.length ≤ 4 := by
  by_cases q : qb.length ≤ 4
  ·exact q
  ·exfalso
   unfold pX at h1
   rw [eN (show 4 < (qb.length : Int) by omega), Bool.true_or, cond_true] at h1
   revert h1
   cases ((!(vn qf)) || (!(vn qg))) <;> cases (((!(sE qh qi)) || (!(jS qc 1 1048576))) || (!(jS qd 1 1048576))) <;> simp
 by_cases h2 : 4000 < (a1.length : Int)
 ·rw [eN h2] at hQ ⊢
  exact hQ
 rw [eT h2] at hQ ⊢
 simp only [cond_false] at hQ ⊢
 unfold aIn at hQ
 refine aS3 4001 _ _ qf qg qh qi qc qd qb qe (by omega) a1 (by omega) 0 4001 0 0 0 [] [] (by omega) (by omega) (by simp) (by simp) (fun q j x y ls st => ?_) (fun x y ls st q => ?_)
 ·rw [List.drop_zero] at q
  rw [q] at hQ
  exact hQ
 ·rw [List.drop_zero] at q
  rw [q] at hQ
  have hi := aJN qc qd qb a1 _ _ q (by intro z hz; cases hz)
  have i2 : ls.length ≤ 0 + a1.length := hi.2.1
  have i3 : st.length ≤ 0 + a1.length := hi.2.2
  refine ⟨⟨hi.1, by omega⟩, by omega, ?_⟩
  exact hQ
def aHB : Nat → Nat → Nat → Canon UU := fun o b r => ⟨[], [], [], [], []⟩
def aFB (qa aR aP aO aN aZ bD bC : Int) (Q : zzI → Prop) : Prop := cond (qa == 3) ((((([aD (aR - bD), aD (aP - bC)]).length + ([aO, aN]).length) * 8 ≤ 140737488355328) ∧ Q (([aD (aR - bD), aD (aP - bC)]) ++ ([aO, aN])))) (Q ([aD (aR - bD), aD (aP - bC)]))
def aCX (F : Nat) (qa aR aP aO aN aZ bD bC : Int) (Q : zzI → Prop) : Prop := aFB qa aR aP aO aN aZ bD bC Q
def pF (qa aR aP aO aN aZ bD bC : Int) : Prop := (cond (qa == 3) (((([aD (aR - bD), aD (aP - bC)]).length + ([aO, aN]).length) * 8 ≤ 140737488355328)) (True))
def oT (qa aR aP aO aN aZ bD bC : Int) : (zzI) := cond (qa == 3) ((([aD (aR - bD), aD (aP - bC)]) ++ ([aO, aN]))) ([aD (aR - bD), aD (aP - bC)])
theorem aQm (qa aR aP aO aN aZ bD bC : Int) (hp : pF qa aR aP aO aN aZ bD bC) : ∃ F, ∀ Q : zzI → Prop, Q (oT qa aR aP aO aN aZ bD bC) → aCX F qa aR aP aO aN aZ bD bC Q := by
 refine ⟨0, fun Q h => ?_⟩
 unfold aCX aFB
 unfold oT at h
 unfold pF at hp
 cases dZ : (qa == 3)
 ·try simp only [dZ, cond_false] at h hp ⊢
  exact h
 ·try simp only [dZ, cond_true] at h hp ⊢
  have aUK := hp
  refine ⟨aUK, ?_⟩
  exact h
def aHK : Nat → Nat → Nat → Canon UU := fun o b r => ⟨[], [], [], [], []⟩
def aFR (qa aR aP aO aN aZ bD bC : Int) (Q : zzI → Prop) : Prop := ((pF qa aR aP aO aN aZ 0 0) ∧ Q (oT qa aR aP aO aN aZ 0 0))
def aC8 (F : Nat) (qa aR aP aO aN aZ bD bC : Int) (Q : zzI → Prop) : Prop := aFR qa aR aP aO aN aZ bD bC Q
def c7 (qa aR aP aO aN aZ bD bC : Int) : Prop := (pF qa aR aP aO aN aZ 0 0)
def zO (qa aR aP aO aN aZ bD bC : Int) : (zzI) := (oT qa aR aP aO aN aZ 0 0)
theorem aQz (qa aR aP aO aN aZ bD bC : Int) (hp : c7 qa aR aP aO aN aZ bD bC) : ∃ F, ∀ Q : zzI → Prop, Q (zO qa aR aP aO aN aZ bD bC) → aC8 F qa aR aP aO aN aZ bD bC Q := by
 refine ⟨0, fun Q h => ?_⟩
 unfold aC8 aFR
 unfold zO at h
 unfold c7 at hp
 have mU := hp
 refine ⟨mU, ?_⟩
 exact h
def aHF : Nat → Nat → Nat → Canon UU := fun o b r => ⟨[], [], [], [], []⟩
def aFH (qa aR aP aO aN aZ bD bC : Int) (Q : zzI → Prop) : Prop := cond (qa == 5) (Q ([aR, aZ])) (Q ([aZ, aR, aP, aO]))
def aC2 (F : Nat) (qa aR aP aO aN aZ bD bC : Int) (Q : zzI → Prop) : Prop := aFH qa aR aP aO aN aZ bD bC Q
def sD (qa aR aP aO aN aZ bD bC : Int) : (zzI) := cond (qa == 5) ([aR, aZ]) ([aZ, aR, aP, aO])
theorem aQs (qa aR aP aO aN aZ bD bC : Int) : ∃ F, ∀ Q : zzI → Prop, Q (sD qa aR aP aO aN aZ bD bC) → aC2 F qa aR aP aO aN aZ bD bC Q := by
 refine ⟨0, fun Q h => ?_⟩
 unfold aC2 aFH
 unfold sD at h
 cases dZ : (qa == 5)
 ·try simp only [dZ, cond_false] at h ⊢
  exact h
 ·try simp only [dZ, cond_true] at h ⊢
  exact h
def iG : Nat → Nat → Nat → Canon UU := fun o b r => cond (Nat.beq b 0) ⟨[4, 5, 6, 8, 9, 28, 29, 30], [6, 8, 9], [], [], []⟩ (cond (Nat.beq b 2) ⟨[4, 5, 6, 8, 9, 11, 28, 29, 30, 60, 61, 62], [6, 8, 9, 11], [], [], []⟩ (⟨[], [], [], [], []⟩))
def fB (t4 : ByteArray) (t5 : Int) (t28 : List Opn) (t29 t30 : Int) (o8 : ByteArray) (aC aB : Int) : ASt UU := ⟨fun u => cond (Nat.beq u 4) (.str t4) (cond (Nat.beq u 5) (.int .i64 t5) (cond (Nat.beq u 6) (.ptr 6 0) (cond (Nat.beq u 8) (.ptr 8 0) (cond (Nat.beq u 9) (.ptr 9 0) (cond (Nat.beq u 28) (.sl .op t28) (cond (Nat.beq u 29) (.int .i64 t29) (cond (Nat.beq u 30) (.int .i64 t30) (.any)))))))), fun u => cond (Nat.beq u 6) (some (.cells [.frz .W1, .fn 112 [], .fn 114 []])) (cond (Nat.beq u 8) (some (.opq .bld o8)) (cond (Nat.beq u 9) (some (.cells [.int .i64 aC, .int .i64 aB])) (none)))⟩
def lU (t4 : ByteArray) (t5 : Int) (t28 : List Opn) (t29 t30 : Int) (t60 : zzI) (t61 t62 : Int) (o8 : ByteArray) (aC aB bK bJ bI bH bG bF : Int) : ASt UU := ⟨fun u => cond (Nat.beq u 4) (.str t4) (cond (Nat.beq u 5) (.int .i64 t5) (cond (Nat.beq u 6) (.ptr 6 0) (cond (Nat.beq u 8) (.ptr 8 0) (cond (Nat.beq u 9) (.ptr 9 0) (cond (Nat.beq u 11) (.ptr 11 0) (cond (Nat.beq u 28) (.sl .op t28) (cond (Nat.beq u 29) (.int .i64 t29) (cond (Nat.beq u 30) (.int .i64 t30) (cond (Nat.beq u 60) (.sl .int t60) (cond (Nat.beq u 61) (.int .i64 t61) (cond (Nat.beq u 62) (.int .i64 t62) (.any)))))))))))), fun u => cond (Nat.beq u 6) (some (.cells [.frz .W1, .fn 112 [], .fn 114 []])) (cond (Nat.beq u 8) (some (.opq .bld o8)) (cond (Nat.beq u 9) (some (.cells [.int .i64 aC, .int .i64 aB])) (cond (Nat.beq u 11) (some (.cells [.int .i64 bK, .int .i64 bJ, .int .i64 bI, .int .i64 bH, .int .i64 bG, .int .i64 bF])) (none))))⟩
def aGG (ops : List Opn) (Q : ByteArray → Int → Prop) (i0 : ByteArray → Int → List Opn → Int → Int → ByteArray → Int → Int → Prop) : Prop := cond (decide (4000 < (ops.length : Int))) (Q (ByteArray.mk #[]) 4) (i0 (ByteArray.mk #[]) 0 ops (ops.length : Int) 0 ByteArray.empty 0 0)
def aL8 (rec : ByteArray → Int → List Opn → Int → Int → ByteArray → Int → Int → Prop) (x0 : ByteArray → Int → List Opn → Int → Int → ByteArray → Int → Int → Prop) (x1 : ByteArray → Int → List Opn → Int → Int → ByteArray → Int → Int → Prop) (t4 : ByteArray) (t5 : Int) (t28 : List Opn) (t29 t30 : Int) (o8 : ByteArray) (aC aB : Int) (i1 : ByteArray → Int → List Opn → Int → Int → zzI → Int → Int → ByteArray → Int → Int → Int → Int → Int → Int → Int → Int → Prop) : Prop := cond (decide (t30 < t29)) ((let e0 := (t28.getD t30.toNat default); ((0 ≤ t30 ∧ t30 < t28.length) ∧ (let r1 := (nR e0.Kind e0.X e0.Y e0.W e0.H e0.N); (let r2 := (nS e0.Kind e0.X e0.Y e0.W e0.H e0.N); cond (((!(fO [1, 2, 4, 3] e0.Kind)) || (!r1)) || (!r2)) (x0 (ByteArray.mk #[]) 16 t28 t29 t30 o8 aC aB) (((1 ≤ (eI gQ e0.Kind).size ∧ o8.size + (eI gQ e0.Kind).size ≤ 140737488355328) ∧ (let r3 := (zO e0.Kind e0.X e0.Y e0.W e0.H e0.N aC aB); ((c7 e0.Kind e0.X e0.Y e0.W e0.H e0.N aC aB) ∧ i1 t4 t5 t28 t29 t30 r3 (r3.length : Int) 0 (o8 ++ (eI gQ e0.Kind)) aC aB e0.Kind e0.X e0.Y e0.W e0.H e0.N))))))))) (x1 t4 t5 t28 t29 t30 o8 aC aB)
def aGJ (Q : ByteArray → Int → Prop) (t4 : ByteArray) (t5 : Int) (t28 : List Opn) (t29 t30 : Int) (o8 : ByteArray) (aC aB : Int) : Prop := Q t4 t5
def aGI (Q : ByteArray → Int → Prop) (t4 : ByteArray) (t5 : Int) (t28 : List Opn) (t29 t30 : Int) (o8 : ByteArray) (aC aB : Int) : Prop := Q o8 0
def aL7 (rec : ByteArray → Int → List Opn → Int → Int → zzI → Int → Int → ByteArray → Int → Int → Int → Int → Int → Int → Int → Int → Prop) (x0 : ByteArray → Int → List Opn → Int → Int → zzI → Int → Int → ByteArray → Int → Int → Int → Int → Int → Int → Int → Int → Prop) (t4 : ByteArray) (t5 : Int) (t28 : List Opn) (t29 t30 : Int) (t60 : zzI) (t61 t62 : Int) (o8 : ByteArray) (aC aB bK bJ bI bH bG bF : Int) : Prop := cond (decide (t62 < t61)) ((let e0 := (t60.getD t62.toNat default); ((0 ≤ t62 ∧ t62 < t60.length) ∧ (((-9223372036854775808 ≤ e0 ∧ e0 ≤ 9223372036854775807) ∧ ((((ByteArray.mk #[32]).size : Int) + (fF e0).size ≤ 9223372036854775807) ∧ (1 ≤ ((ByteArray.mk #[32]) ++ (fF e0)).size ∧ o8.size + ((ByteArray.mk #[32]) ++ (fF e0)).size ≤ 140737488355328))) ∧ rec t4 t5 t28 t29 t30 t60 t61 (aD (t62 + 1)) (o8 ++ ((ByteArray.mk #[32]) ++ (fF e0))) aC aB bK bJ bI bH bG bF)))) (x0 t4 t5 t28 t29 t30 t60 t61 t62 o8 aC aB bK bJ bI bH bG bF)
def aGH (rec : ByteArray → Int → List Opn → Int → Int → ByteArray → Int → Int → Prop) (x0 : ByteArray → Int → List Opn → Int → Int → ByteArray → Int → Int → Prop) (x1 : ByteArray → Int → List Opn → Int → Int → ByteArray → Int → Int → Prop) (t4 : ByteArray) (t5 : Int) (t28 : List Opn) (t29 t30 : Int) (t60 : zzI) (t61 t62 : Int) (o8 : ByteArray) (aC aB bK bJ bI bH bG bF : Int) : Prop := ((1 ≤ (ByteArray.mk #[10]).size ∧ o8.size + (ByteArray.mk #[10]).size ≤ 140737488355328) ∧ (let r0 := (kE bK bJ bI bH bG bF aC aB); rec t4 t5 t28 t29 (aD (t30 + 1)) (o8 ++ (ByteArray.mk #[10])) r0.1 r0.2))
def zJ (F : Nat) (x0 : ByteArray → Int → List Opn → Int → Int → zzI → Int → Int → ByteArray → Int → Int → Int → Int → Int → Int → Int → Int → Prop) : Nat → ByteArray → Int → List Opn → Int → Int → zzI → Int → Int → ByteArray → Int → Int → Int → Int → Int → Int → Int → Int → Prop
 | 0, _, _, _, _, _, _, _, _, _, _, _, _, _, _, _, _, _ => False
 | n + 1, t4, t5, t28, t29, t30, t60, t61, t62, o8, aC, aB, bK, bJ, bI, bH, bG, bF => aL7 (zJ F x0 n) x0 t4 t5 t28 t29 t30 t60 t61 t62 o8 aC aB bK bJ bI bH bG bF
def aAw (F : Nat) (rec : ByteArray → Int → List Opn → Int → Int → ByteArray → Int → Int → Prop) (x0 : ByteArray → Int → List Opn → Int → Int → ByteArray → Int → Int → Prop) (x1 : ByteArray → Int → List Opn → Int → Int → ByteArray → Int → Int → Prop) (t4 : ByteArray) (t5 : Int) (t28 : List Opn) (t29 t30 : Int) (t60 : zzI) (t61 t62 : Int) (o8 : ByteArray) (aC aB bK bJ bI bH bG bF : Int) : Prop := zJ F (fun t4 t5 t28 t29 t30 t60 t61 t62 o8 aC aB bK bJ bI bH bG bF => aGH rec x0 x1 t4 t5 t28 t29 t30 t60 t61 t62 o8 aC aB bK bJ bI bH bG bF) F t4 t5 t28 t29 t30 t60 t61 t62 o8 aC aB bK bJ bI bH bG bF
def oQ (F : Nat) (x0 : ByteArray → Int → List Opn → Int → Int → ByteArray → Int → Int → Prop) (x1 : ByteArray → Int → List Opn → Int → Int → ByteArray → Int → Int → Prop) : Nat → ByteArray → Int → List Opn → Int → Int → ByteArray → Int → Int → Prop
 | 0, _, _, _, _, _, _, _, _ => False
 | n + 1, t4, t5, t28, t29, t30, o8, aC, aB => aL8 (oQ F x0 x1 n) x0 x1 t4 t5 t28 t29 t30 o8 aC aB (aAw F (oQ F x0 x1 n) x0 x1)
def aER (F : Nat) (Q : ByteArray → Int → Prop) (t4 : ByteArray) (t5 : Int) (t28 : List Opn) (t29 t30 : Int) (o8 : ByteArray) (aC aB : Int) : Prop := oQ F (fun t4 t5 t28 t29 t30 o8 aC aB => aGJ Q t4 t5 t28 t29 t30 o8 aC aB) (fun t4 t5 t28 t29 t30 o8 aC aB => aGI Q t4 t5 t28 t29 t30 o8 aC aB) F t4 t5 t28 t29 t30 o8 aC aB
def aCw (F : Nat) (ops : List Opn) (Q : ByteArray → Int → Prop) : Prop := aGG ops Q (aER F Q)
def iF : Nat → Nat → Nat → Canon UU := fun o b r => cond (Nat.beq b 0) ⟨[4, 5, 6, 8, 9, 28, 29, 30], [6, 8, 9], [], [], []⟩ (cond (Nat.beq b 2) ⟨[4, 5, 6, 8, 9, 11, 28, 29, 30, 60, 61, 62], [6, 8, 9, 11], [], [], []⟩ (⟨[], [], [], [], []⟩))
def fA (t4 : ByteArray) (t5 : Int) (t28 : List Opn) (t29 t30 : Int) (o8 : ByteArray) (aC aB : Int) : ASt UU := ⟨fun u => cond (Nat.beq u 4) (.str t4) (cond (Nat.beq u 5) (.int .i64 t5) (cond (Nat.beq u 6) (.ptr 6 0) (cond (Nat.beq u 8) (.ptr 8 0) (cond (Nat.beq u 9) (.ptr 9 0) (cond (Nat.beq u 28) (.sl .op t28) (cond (Nat.beq u 29) (.int .i64 t29) (cond (Nat.beq u 30) (.int .i64 t30) (.any)))))))), fun u => cond (Nat.beq u 6) (some (.cells [.frz .W2, .fn 113 [], .fn 115 []])) (cond (Nat.beq u 8) (some (.opq .bld o8)) (cond (Nat.beq u 9) (some (.cells [.int .i64 aC, .int .i64 aB])) (none)))⟩
def lT (t4 : ByteArray) (t5 : Int) (t28 : List Opn) (t29 t30 : Int) (t60 : zzI) (t61 t62 : Int) (o8 : ByteArray) (aC aB bK bJ bI bH bG bF : Int) : ASt UU := ⟨fun u => cond (Nat.beq u 4) (.str t4) (cond (Nat.beq u 5) (.int .i64 t5) (cond (Nat.beq u 6) (.ptr 6 0) (cond (Nat.beq u 8) (.ptr 8 0) (cond (Nat.beq u 9) (.ptr 9 0) (cond (Nat.beq u 11) (.ptr 11 0) (cond (Nat.beq u 28) (.sl .op t28) (cond (Nat.beq u 29) (.int .i64 t29) (cond (Nat.beq u 30) (.int .i64 t30) (cond (Nat.beq u 60) (.sl .int t60) (cond (Nat.beq u 61) (.int .i64 t61) (cond (Nat.beq u 62) (.int .i64 t62) (.any)))))))))))), fun u => cond (Nat.beq u 6) (some (.cells [.frz .W2, .fn 113 [], .fn 115 []])) (cond (Nat.beq u 8) (some (.opq .bld o8)) (cond (Nat.beq u 9) (some (.cells [.int .i64 aC, .int .i64 aB])) (cond (Nat.beq u 11) (some (.cells [.int .i64 bK, .int .i64 bJ, .int .i64 bI, .int .i64 bH, .int .i64 bG, .int .i64 bF])) (none))))⟩
def aGC (ops : List Opn) (Q : ByteArray → Int → Prop) (i0 : ByteArray → Int → List Opn → Int → Int → ByteArray → Int → Int → Prop) : Prop := cond (decide (4000 < (ops.length : Int))) (Q (ByteArray.mk #[]) 4) (i0 (ByteArray.mk #[]) 0 ops (ops.length : Int) 0 ByteArray.empty 0 0)
def aL6 (rec : ByteArray → Int → List Opn → Int → Int → ByteArray → Int → Int → Prop) (x0 : ByteArray → Int → List Opn → Int → Int → ByteArray → Int → Int → Prop) (x1 : ByteArray → Int → List Opn → Int → Int → ByteArray → Int → Int → Prop) (t4 : ByteArray) (t5 : Int) (t28 : List Opn) (t29 t30 : Int) (o8 : ByteArray) (aC aB : Int) (i1 : ByteArray → Int → List Opn → Int → Int → zzI → Int → Int → ByteArray → Int → Int → Int → Int → Int → Int → Int → Int → Prop) : Prop := cond (decide (t30 < t29)) ((let e0 := (t28.getD t30.toNat default); ((0 ≤ t30 ∧ t30 < t28.length) ∧ (let r1 := (nR e0.Kind e0.X e0.Y e0.W e0.H e0.N); (let r2 := (nS e0.Kind e0.X e0.Y e0.W e0.H e0.N); cond (((!(fO [1, 2, 4, 3] e0.Kind)) || (!r1)) || (!r2)) (x0 (ByteArray.mk #[]) 16 t28 t29 t30 o8 aC aB) (((1 ≤ (eI gJ e0.Kind).size ∧ o8.size + (eI gJ e0.Kind).size ≤ 140737488355328) ∧ (let r3 := (oT e0.Kind e0.X e0.Y e0.W e0.H e0.N aC aB); ((pF e0.Kind e0.X e0.Y e0.W e0.H e0.N aC aB) ∧ i1 t4 t5 t28 t29 t30 r3 (r3.length : Int) 0 (o8 ++ (eI gJ e0.Kind)) aC aB e0.Kind e0.X e0.Y e0.W e0.H e0.N))))))))) (x1 t4 t5 t28 t29 t30 o8 aC aB)
def aGF (Q : ByteArray → Int → Prop) (t4 : ByteArray) (t5 : Int) (t28 : List Opn) (t29 t30 : Int) (o8 : ByteArray) (aC aB : Int) : Prop := Q t4 t5
def aGE (Q : ByteArray → Int → Prop) (t4 : ByteArray) (t5 : Int) (t28 : List Opn) (t29 t30 : Int) (o8 : ByteArray) (aC aB : Int) : Prop := Q o8 0
def aL5 (rec : ByteArray → Int → List Opn → Int → Int → zzI → Int → Int → ByteArray → Int → Int → Int → Int → Int → Int → Int → Int → Prop) (x0 : ByteArray → Int → List Opn → Int → Int → zzI → Int → Int → ByteArray → Int → Int → Int → Int → Int → Int → Int → Int → Prop) (t4 : ByteArray) (t5 : Int) (t28 : List Opn) (t29 t30 : Int) (t60 : zzI) (t61 t62 : Int) (o8 : ByteArray) (aC aB bK bJ bI bH bG bF : Int) : Prop := cond (decide (t62 < t61)) ((let e0 := (t60.getD t62.toNat default); ((0 ≤ t62 ∧ t62 < t60.length) ∧ (((-9223372036854775808 ≤ e0 ∧ e0 ≤ 9223372036854775807) ∧ ((((ByteArray.mk #[32]).size : Int) + (fF e0).size ≤ 9223372036854775807) ∧ (1 ≤ ((ByteArray.mk #[32]) ++ (fF e0)).size ∧ o8.size + ((ByteArray.mk #[32]) ++ (fF e0)).size ≤ 140737488355328))) ∧ rec t4 t5 t28 t29 t30 t60 t61 (aD (t62 + 1)) (o8 ++ ((ByteArray.mk #[32]) ++ (fF e0))) aC aB bK bJ bI bH bG bF)))) (x0 t4 t5 t28 t29 t30 t60 t61 t62 o8 aC aB bK bJ bI bH bG bF)
def aGD (rec : ByteArray → Int → List Opn → Int → Int → ByteArray → Int → Int → Prop) (x0 : ByteArray → Int → List Opn → Int → Int → ByteArray → Int → Int → Prop) (x1 : ByteArray → Int → List Opn → Int → Int → ByteArray → Int → Int → Prop) (t4 : ByteArray) (t5 : Int) (t28 : List Opn) (t29 t30 : Int) (t60 : zzI) (t61 t62 : Int) (o8 : ByteArray) (aC aB bK bJ bI bH bG bF : Int) : Prop := ((1 ≤ (ByteArray.mk #[10]).size ∧ o8.size + (ByteArray.mk #[10]).size ≤ 140737488355328) ∧ (let r0 := (kE bK bJ bI bH bG bF aC aB); rec t4 t5 t28 t29 (aD (t30 + 1)) (o8 ++ (ByteArray.mk #[10])) r0.1 r0.2))
def zI (F : Nat) (x0 : ByteArray → Int → List Opn → Int → Int → zzI → Int → Int → ByteArray → Int → Int → Int → Int → Int → Int → Int → Int → Prop) : Nat → ByteArray → Int → List Opn → Int → Int → zzI → Int → Int → ByteArray → Int → Int → Int → Int → Int → Int → Int → Int → Prop
 | 0, _, _, _, _, _, _, _, _, _, _, _, _, _, _, _, _, _ => False
 | n + 1, t4, t5, t28, t29, t30, t60, t61, t62, o8, aC, aB, bK, bJ, bI, bH, bG, bF => aL5 (zI F x0 n) x0 t4 t5 t28 t29 t30 t60 t61 t62 o8 aC aB bK bJ bI bH bG bF
def aAv (F : Nat) (rec : ByteArray → Int → List Opn → Int → Int → ByteArray → Int → Int → Prop) (x0 : ByteArray → Int → List Opn → Int → Int → ByteArray → Int → Int → Prop) (x1 : ByteArray → Int → List Opn → Int → Int → ByteArray → Int → Int → Prop) (t4 : ByteArray) (t5 : Int) (t28 : List Opn) (t29 t30 : Int) (t60 : zzI) (t61 t62 : Int) (o8 : ByteArray) (aC aB bK bJ bI bH bG bF : Int) : Prop := zI F (fun t4 t5 t28 t29 t30 t60 t61 t62 o8 aC aB bK bJ bI bH bG bF => aGD rec x0 x1 t4 t5 t28 t29 t30 t60 t61 t62 o8 aC aB bK bJ bI bH bG bF) F t4 t5 t28 t29 t30 t60 t61 t62 o8 aC aB bK bJ bI bH bG bF
def oP (F : Nat) (x0 : ByteArray → Int → List Opn → Int → Int → ByteArray → Int → Int → Prop) (x1 : ByteArray → Int → List Opn → Int → Int → ByteArray → Int → Int → Prop) : Nat → ByteArray → Int → List Opn → Int → Int → ByteArray → Int → Int → Prop
 | 0, _, _, _, _, _, _, _, _ => False
 | n + 1, t4, t5, t28, t29, t30, o8, aC, aB => aL6 (oP F x0 x1 n) x0 x1 t4 t5 t28 t29 t30 o8 aC aB (aAv F (oP F x0 x1 n) x0 x1)
def aEQ (F : Nat) (Q : ByteArray → Int → Prop) (t4 : ByteArray) (t5 : Int) (t28 : List Opn) (t29 t30 : Int) (o8 : ByteArray) (aC aB : Int) : Prop := oP F (fun t4 t5 t28 t29 t30 o8 aC aB => aGF Q t4 t5 t28 t29 t30 o8 aC aB) (fun t4 t5 t28 t29 t30 o8 aC aB => aGE Q t4 t5 t28 t29 t30 o8 aC aB) F t4 t5 t28 t29 t30 o8 aC aB
def aCv (F : Nat) (ops : List Opn) (Q : ByteArray → Int → Prop) : Prop := aGC ops Q (aEQ F Q)
def iE : Nat → Nat → Nat → Canon UU := fun o b r => cond (Nat.beq b 0) ⟨[4, 5, 6, 8, 9, 28, 29, 30], [6, 8, 9], [], [], []⟩ (cond (Nat.beq b 2) ⟨[4, 5, 6, 8, 9, 11, 28, 29, 30, 60, 61, 62], [6, 8, 9, 11], [], [], []⟩ (⟨[], [], [], [], []⟩))
def eZ (t4 : ByteArray) (t5 : Int) (t28 : List Opn) (t29 t30 : Int) (o8 : ByteArray) (aC aB : Int) : ASt UU := ⟨fun u => cond (Nat.beq u 4) (.str t4) (cond (Nat.beq u 5) (.int .i64 t5) (cond (Nat.beq u 6) (.ptr 6 0) (cond (Nat.beq u 8) (.ptr 8 0) (cond (Nat.beq u 9) (.ptr 9 0) (cond (Nat.beq u 28) (.sl .op t28) (cond (Nat.beq u 29) (.int .i64 t29) (cond (Nat.beq u 30) (.int .i64 t30) (.any)))))))), fun u => cond (Nat.beq u 6) (some (.cells [.frz .W3, .fn 116 [], .fn 117 []])) (cond (Nat.beq u 8) (some (.opq .bld o8)) (cond (Nat.beq u 9) (some (.cells [.int .i64 aC, .int .i64 aB])) (none)))⟩
def lS (t4 : ByteArray) (t5 : Int) (t28 : List Opn) (t29 t30 : Int) (t60 : zzI) (t61 t62 : Int) (o8 : ByteArray) (aC aB bK bJ bI bH bG bF : Int) : ASt UU := ⟨fun u => cond (Nat.beq u 4) (.str t4) (cond (Nat.beq u 5) (.int .i64 t5) (cond (Nat.beq u 6) (.ptr 6 0) (cond (Nat.beq u 8) (.ptr 8 0) (cond (Nat.beq u 9) (.ptr 9 0) (cond (Nat.beq u 11) (.ptr 11 0) (cond (Nat.beq u 28) (.sl .op t28) (cond (Nat.beq u 29) (.int .i64 t29) (cond (Nat.beq u 30) (.int .i64 t30) (cond (Nat.beq u 60) (.sl .int t60) (cond (Nat.beq u 61) (.int .i64 t61) (cond (Nat.beq u 62) (.int .i64 t62) (.any)))))))))))), fun u => cond (Nat.beq u 6) (some (.cells [.frz .W3, .fn 116 [], .fn 117 []])) (cond (Nat.beq u 8) (some (.opq .bld o8)) (cond (Nat.beq u 9) (some (.cells [.int .i64 aC, .int .i64 aB])) (cond (Nat.beq u 11) (some (.cells [.int .i64 bK, .int .i64 bJ, .int .i64 bI, .int .i64 bH, .int .i64 bG, .int .i64 bF])) (none))))⟩
def aFy (ops : List Opn) (Q : ByteArray → Int → Prop) (i0 : ByteArray → Int → List Opn → Int → Int → ByteArray → Int → Int → Prop) : Prop := cond (decide (4000 < (ops.length : Int))) (Q (ByteArray.mk #[]) 4) (i0 (ByteArray.mk #[]) 0 ops (ops.length : Int) 0 ByteArray.empty 0 0)
def aL4 (rec : ByteArray → Int → List Opn → Int → Int → ByteArray → Int → Int → Prop) (x0 : ByteArray → Int → List Opn → Int → Int → ByteArray → Int → Int → Prop) (x1 : ByteArray → Int → List Opn → Int → Int → ByteArray → Int → Int → Prop) (t4 : ByteArray) (t5 : Int) (t28 : List Opn) (t29 t30 : Int) (o8 : ByteArray) (aC aB : Int) (i1 : ByteArray → Int → List Opn → Int → Int → zzI → Int → Int → ByteArray → Int → Int → Int → Int → Int → Int → Int → Int → Prop) : Prop := cond (decide (t30 < t29)) ((let e0 := (t28.getD t30.toNat default); ((0 ≤ t30 ∧ t30 < t28.length) ∧ (let r1 := (nR e0.Kind e0.X e0.Y e0.W e0.H e0.N); (let r2 := (nS e0.Kind e0.X e0.Y e0.W e0.H e0.N); cond (((!(fO [5, 6] e0.Kind)) || (!r1)) || (!r2)) (x0 (ByteArray.mk #[]) 16 t28 t29 t30 o8 aC aB) (((1 ≤ (eI gP e0.Kind).size ∧ o8.size + (eI gP e0.Kind).size ≤ 140737488355328) ∧ (let r3 := (sD e0.Kind e0.X e0.Y e0.W e0.H e0.N aC aB); i1 t4 t5 t28 t29 t30 r3 (r3.length : Int) 0 (o8 ++ (eI gP e0.Kind)) aC aB e0.Kind e0.X e0.Y e0.W e0.H e0.N)))))))) (x1 t4 t5 t28 t29 t30 o8 aC aB)
def aGB (Q : ByteArray → Int → Prop) (t4 : ByteArray) (t5 : Int) (t28 : List Opn) (t29 t30 : Int) (o8 : ByteArray) (aC aB : Int) : Prop := Q t4 t5
def aGA (Q : ByteArray → Int → Prop) (t4 : ByteArray) (t5 : Int) (t28 : List Opn) (t29 t30 : Int) (o8 : ByteArray) (aC aB : Int) : Prop := Q o8 0
def aL3 (rec : ByteArray → Int → List Opn → Int → Int → zzI → Int → Int → ByteArray → Int → Int → Int → Int → Int → Int → Int → Int → Prop) (x0 : ByteArray → Int → List Opn → Int → Int → zzI → Int → Int → ByteArray → Int → Int → Int → Int → Int → Int → Int → Int → Prop) (t4 : ByteArray) (t5 : Int) (t28 : List Opn) (t29 t30 : Int) (t60 : zzI) (t61 t62 : Int) (o8 : ByteArray) (aC aB bK bJ bI bH bG bF : Int) : Prop := cond (decide (t62 < t61)) ((let e0 := (t60.getD t62.toNat default); ((0 ≤ t62 ∧ t62 < t60.length) ∧ (((-9223372036854775808 ≤ e0 ∧ e0 ≤ 9223372036854775807) ∧ ((((ByteArray.mk #[32]).size : Int) + (fF e0).size ≤ 9223372036854775807) ∧ (1 ≤ ((ByteArray.mk #[32]) ++ (fF e0)).size ∧ o8.size + ((ByteArray.mk #[32]) ++ (fF e0)).size ≤ 140737488355328))) ∧ rec t4 t5 t28 t29 t30 t60 t61 (aD (t62 + 1)) (o8 ++ ((ByteArray.mk #[32]) ++ (fF e0))) aC aB bK bJ bI bH bG bF)))) (x0 t4 t5 t28 t29 t30 t60 t61 t62 o8 aC aB bK bJ bI bH bG bF)
def aFz (rec : ByteArray → Int → List Opn → Int → Int → ByteArray → Int → Int → Prop) (x0 : ByteArray → Int → List Opn → Int → Int → ByteArray → Int → Int → Prop) (x1 : ByteArray → Int → List Opn → Int → Int → ByteArray → Int → Int → Prop) (t4 : ByteArray) (t5 : Int) (t28 : List Opn) (t29 t30 : Int) (t60 : zzI) (t61 t62 : Int) (o8 : ByteArray) (aC aB bK bJ bI bH bG bF : Int) : Prop := ((1 ≤ (ByteArray.mk #[10]).size ∧ o8.size + (ByteArray.mk #[10]).size ≤ 140737488355328) ∧ (let r0 := (kE bK bJ bI bH bG bF aC aB); rec t4 t5 t28 t29 (aD (t30 + 1)) (o8 ++ (ByteArray.mk #[10])) r0.1 r0.2))
def zH (F : Nat) (x0 : ByteArray → Int → List Opn → Int → Int → zzI → Int → Int → ByteArray → Int → Int → Int → Int → Int → Int → Int → Int → Prop) : Nat → ByteArray → Int → List Opn → Int → Int → zzI → Int → Int → ByteArray → Int → Int → Int → Int → Int → Int → Int → Int → Prop
 | 0, _, _, _, _, _, _, _, _, _, _, _, _, _, _, _, _, _ => False
 | n + 1, t4, t5, t28, t29, t30, t60, t61, t62, o8, aC, aB, bK, bJ, bI, bH, bG, bF => aL3 (zH F x0 n) x0 t4 t5 t28 t29 t30 t60 t61 t62 o8 aC aB bK bJ bI bH bG bF
def aAu (F : Nat) (rec : ByteArray → Int → List Opn → Int → Int → ByteArray → Int → Int → Prop) (x0 : ByteArray → Int → List Opn → Int → Int → ByteArray → Int → Int → Prop) (x1 : ByteArray → Int → List Opn → Int → Int → ByteArray → Int → Int → Prop) (t4 : ByteArray) (t5 : Int) (t28 : List Opn) (t29 t30 : Int) (t60 : zzI) (t61 t62 : Int) (o8 : ByteArray) (aC aB bK bJ bI bH bG bF : Int) : Prop := zH F (fun t4 t5 t28 t29 t30 t60 t61 t62 o8 aC aB bK bJ bI bH bG bF => aFz rec x0 x1 t4 t5 t28 t29 t30 t60 t61 t62 o8 aC aB bK bJ bI bH bG bF) F t4 t5 t28 t29 t30 t60 t61 t62 o8 aC aB bK bJ bI bH bG bF
def oO (F : Nat) (x0 : ByteArray → Int → List Opn → Int → Int → ByteArray → Int → Int → Prop) (x1 : ByteArray → Int → List Opn → Int → Int → ByteArray → Int → Int → Prop) : Nat → ByteArray → Int → List Opn → Int → Int → ByteArray → Int → Int → Prop
 | 0, _, _, _, _, _, _, _, _ => False
 | n + 1, t4, t5, t28, t29, t30, o8, aC, aB => aL4 (oO F x0 x1 n) x0 x1 t4 t5 t28 t29 t30 o8 aC aB (aAu F (oO F x0 x1 n) x0 x1)
def aEP (F : Nat) (Q : ByteArray → Int → Prop) (t4 : ByteArray) (t5 : Int) (t28 : List Opn) (t29 t30 : Int) (o8 : ByteArray) (aC aB : Int) : Prop := oO F (fun t4 t5 t28 t29 t30 o8 aC aB => aGB Q t4 t5 t28 t29 t30 o8 aC aB) (fun t4 t5 t28 t29 t30 o8 aC aB => aGA Q t4 t5 t28 t29 t30 o8 aC aB) F t4 t5 t28 t29 t30 o8 aC aB
def aCu (F : Nat) (ops : List Opn) (Q : ByteArray → Int → Prop) : Prop := aFy ops Q (aEP F Q)
def aHl : Nat → Nat → Nat → Canon UU := fun o b r => ⟨[], [], [], [], []⟩
def aL2 (m : Nat) (ops : List Opn) (Q : ByteArray → Int → Prop) : Prop := Q (ByteArray.mk #[]) 1
def aIV (F : Nat) (m : Nat) (ops : List Opn) (Q : ByteArray → Int → Prop) : Prop := aL2 m ops Q
def aHm : Nat → Nat → Nat → Canon UU := fun o b r => ⟨[], [], [], [], []⟩
def aL9 (ops : List Opn) (Q : ByteArray → Int → Prop) : Prop := Q (ByteArray.mk #[]) 1
def aIW (F : Nat) (ops : List Opn) (Q : ByteArray → Int → Prop) : Prop := aL9 ops Q
def aHk : Nat → Nat → Nat → Canon UU := fun o b r => ⟨[], [], [], [], []⟩
def aL1 (m : Nat) (ops : List Opn) (Q : ByteArray → Int → Prop) : Prop := Q (ByteArray.mk #[]) 1
def aIU (F : Nat) (m : Nat) (ops : List Opn) (Q : ByteArray → Int → Prop) : Prop := aL1 m ops Q
def lJ (b : ByteArray) (n : Int) : ByteArray := b ++ (ByteArray.mk #[32] ++ fF n)
def w9 (o : Opn) : Bool := nR o.Kind o.X o.Y o.W o.H o.N
def nW (o : Opn) : Bool := nS o.Kind o.X o.Y o.W o.H o.N
def eO (o : Opn) (x y : Int) : Int × Int := kE o.Kind o.X o.Y o.W o.H o.N x y
def eD (ks : zzI) (o : Opn) : Bool := ((!(fO ks o.Kind)) || (!(w9 o))) || (!(nW o))
def jH (ks : zzI) (wl : List (Int × ByteArray)) (wr : Opn → Int → Int → zzI) : List Opn → ByteArray → Int → Int → ByteArray × Int
 | [], b, _, _ => (b, 0)
 | o :: l, b, x, y => bif eD ks o then (ByteArray.mk #[], 16) else jH ks wl wr l ((wr o x y).foldl lJ (b ++ eI wl o.Kind) ++ ByteArray.mk #[10]) (eO o x y).1 (eO o x y).2
def fK (n : Int) : Prop := -9223372036854775808 ≤ n ∧ n ≤ 9223372036854775807
theorem aEf {n : Int} (h : fK n) : (fF n).size ≤ 21 := by
 have := Lib.itoa_length_le n h.1 h.2
 unfold fF
 show (Lib.itoa n).toArray.size ≤ 21
 simpa using this
theorem aDF (n : Int) : ((ByteArray.mk #[32]) ++ fF n).size = 1 + (fF n).size := by
 rw [ByteArray.size_append]
 rfl
theorem aGT (l : zzI) (hl4 : l.length ≤ 1000) (hr : ∀ n ∈ l, fK n) (V : Nat → Int → ByteArray → Prop) (X : Int → ByteArray → Prop)
  (hs : ∀ n i b, V (n + 1) i b = cond (decide (i < (l.length : Int))) ((0 ≤ i ∧ i < l.length) ∧ (((-9223372036854775808 ≤ l.getD i.toNat default ∧ l.getD i.toNat default ≤ 9223372036854775807) ∧ ((((ByteArray.mk #[32]).size : Int) + (fF (l.getD i.toNat default)).size ≤ 9223372036854775807) ∧ (1 ≤ ((ByteArray.mk #[32]) ++ (fF (l.getD i.toNat default))).size ∧ b.size + ((ByteArray.mk #[32]) ++ (fF (l.getD i.toNat default))).size ≤ 140737488355328))) ∧ V n (aD (i + 1)) (b ++ ((ByteArray.mk #[32]) ++ (fF (l.getD i.toNat default)))))) (X i b)) :
  ∀ (n i : Nat) (b : ByteArray), i ≤ l.length → l.length < n + i → b.size ≤ 2000000 + 100 * i → X l.length ((l.drop i).foldl lJ b) → V n i b := by
 intro n
 induction n with
 | zero => intro i b h1 h2; omega
 | succ n ih =>
  intro i b h1 h2 hb hX
  rw [hs]
  by_cases h : i < l.length
  ·rw [eN (show (i : Int) < l.length by omega), cond_true, Int.toNat_natCast, lK h (by omega)]
   rw [oF l i h, List.foldl_cons] at hX
   have he : fK (l.getD i default) := hr _ (by rw [List.getD_eq_getElem?_getD, List.getElem?_eq_getElem h]; exact List.getElem_mem h)
   generalize l.getD i default = e at hX he ⊢
   have hsz := aEf he
   have hsp := aDF e
   have h32 : (ByteArray.mk #[32]).size = 1 := rfl
   refine ⟨⟨by omega, by omega⟩, ⟨he, by omega, by omega, by omega⟩, ?_⟩
   refine ih (i + 1) _ (by omega) (by omega) ?_ hX
   rw [ByteArray.size_append]
   omega
  ·have e : i = l.length := by omega
   subst e
   rw [eT (by omega), cond_false]
   rw [List.drop_length] at hX
   exact hX
theorem vH : ∀ (l : zzI) (b : ByteArray), (∀ n ∈ l, fK n) → (l.foldl lJ b).size ≤ b.size + 22 * l.length
 | [], b, _ => by simp
 | n :: l, b, h => by
  rw [List.foldl_cons]
  have h1 := vH l (lJ b n) (fun m hm => h m (by simp [hm]))
  have h2 := aEf (h n (by simp))
  have h3 : (lJ b n).size = b.size + (1 + (fF n).size) := by
   unfold lJ
   rw [ByteArray.size_append, aDF]
  rw [List.length_cons]
  omega
theorem aGS (ks : zzI) (wl : List (Int × ByteArray)) (wr : Opn → Int → Int → zzI) (hw : ∀ k, fO ks k = true → 1 ≤ (eI wl k).size ∧ (eI wl k).size ≤ 10) (hn : ∀ o x y, nW o = true → (wr o x y).length ≤ 4 ∧ ∀ n ∈ wr o x y, fK n)
  (l : List Opn) (hl : l.length ≤ 4000) (Q : ByteArray → Int → Prop) (X0 X1 : Int → ByteArray → Int → Int → Prop) (W : Nat → Int → ByteArray → Int → Int → Prop) (I : Nat → Int → Opn → zzI → ByteArray → Int → Int → Prop)
  (hs : ∀ n i b x y, W (n + 1) i b x y = cond (decide (i < (l.length : Int))) ((0 ≤ i ∧ i < l.length) ∧ cond (eD ks (l.getD i.toNat default)) (X0 i b x y) ((1 ≤ (eI wl (l.getD i.toNat default).Kind).size ∧ b.size + (eI wl (l.getD i.toNat default).Kind).size ≤ 140737488355328) ∧ I n i (l.getD i.toNat default) (wr (l.getD i.toNat default) x y) (b ++ eI wl (l.getD i.toNat default).Kind) x y)) (X1 i b x y))
  (hI : ∀ n i o nums b x y, nums.length ≤ 4 → (∀ n ∈ nums, fK n) → b.size ≤ 1000000 → W n (aD (i + 1)) (nums.foldl lJ b ++ ByteArray.mk #[10]) (eO o x y).1 (eO o x y).2 → I n i o nums b x y)
  (hX0 : ∀ i b x y, Q (ByteArray.mk #[]) 16 → X0 i b x y) (hX1 : ∀ i b x y, Q b 0 → X1 i b x y) :
  ∀ (n i : Nat) (b : ByteArray) (x y : Int), i ≤ l.length → l.length < n + i → b.size ≤ 200 * i → Q (jH ks wl wr (l.drop i) b x y).1 (jH ks wl wr (l.drop i) b x y).2 → W n i b x y := by
 intro n
 induction n with
 | zero => intro i b x y h1 h2; omega
 | succ n ih =>
  intro i b x y h1 h2 hb hQ
  rw [hs]
  by_cases h : i < l.length
  ·rw [eN (show (i : Int) < l.length by omega), cond_true, Int.toNat_natCast]
   rw [oF l i h] at hQ
   generalize l.getD i default = o at hQ ⊢
   refine ⟨⟨by omega, by omega⟩, ?_⟩
   unfold jH at hQ
   cases hbad : eD ks o with
   | true =>
    rw [hbad] at hQ
    exact hX0 _ _ _ _ hQ
   | false =>
    rw [hbad, cond_false] at hQ
    rw [cond_false]
    unfold eD at hbad
    simp only [Bool.or_eq_false_iff, Bool.not_eq_false'] at hbad
    obtain ⟨⟨k1, k2⟩, k3⟩ := hbad
    obtain ⟨q1, q2⟩ := hw _ k1
    obtain ⟨r1, r2⟩ := hn o x y k3
    have hbs : (b ++ eI wl o.Kind).size = b.size + (eI wl o.Kind).size := ByteArray.size_append ..
    refine ⟨⟨q1, by omega⟩, hI _ _ _ _ _ _ _ r1 r2 (by omega) ?_⟩
    rw [lK h (by omega)]
    refine ih (i + 1) _ _ _ (by omega) (by omega) ?_ hQ
    have tW : (ByteArray.mk #[10]).size = 1 := rfl
    have := vH (wr o x y) (b ++ eI wl o.Kind) r2
    rw [ByteArray.size_append]
    omega
  ·have e : i = l.length := by omega
   subst e
   rw [eT (by omega), cond_false]
   rw [List.drop_length] at hQ
   exact hX1 _ _ _ _ hQ
theorem n5 {n : Int} (h : inR n = true) : fK n := by
 unfold inR at h
 simp only [Bool.not_eq_true', Bool.or_eq_false_iff, decide_eq_false_iff_not] at h
 unfold fK
 omega
theorem aIz {o : Opn} (h : nW o = true) : fK o.X ∧ fK o.Y ∧ fK o.W ∧ fK o.H ∧ fK o.N := by
 unfold nW nS at h
 simp only [List.all_cons, List.all_nil, Bool.and_true, Bool.and_eq_true] at h
 exact ⟨n5 h.1, n5 h.2.1, n5 h.2.2.1, n5 h.2.2.2.1, n5 h.2.2.2.2⟩
theorem vQ (n : Int) : fK (aD n) := by
 have e : aD n = (n + 9223372036854775808) % 18446744073709551616 - 9223372036854775808 := by
  simp only [aD, IntKind.wrap, IntKind.bits, IntKind.signed]
  simp
  split <;> omega
 rw [e]
 unfold fK
 omega
def yY (o : Opn) (x y : Int) : zzI := zO o.Kind o.X o.Y o.W o.H o.N x y
def rV (o : Opn) (x y : Int) : zzI := oT o.Kind o.X o.Y o.W o.H o.N x y
def rU (o : Opn) (x y : Int) : zzI := sD o.Kind o.X o.Y o.W o.H o.N x y
theorem aHu (o : Opn) (x y : Int) (h : nW o = true) : (rV o x y).length ≤ 4 ∧ ∀ n ∈ rV o x y, fK n := by
 obtain ⟨r1, r2, r3, r4, r5⟩ := aIz h
 unfold rV oT
 cases o.Kind == 3
 ·refine ⟨by simp, fun n hn => ?_⟩
  simp only [cond_false, List.mem_cons, List.not_mem_nil, or_false] at hn
  rcases hn with rfl | rfl <;> exact vQ _
 ·refine ⟨by simp, fun n hn => ?_⟩
  simp only [cond_true, List.cons_append, List.nil_append, List.mem_cons, List.not_mem_nil, or_false] at hn
  rcases hn with rfl | rfl | rfl | rfl
  ·exact vQ _
  ·exact vQ _
  ·exact r3
  ·exact r4
theorem aMr (o : Opn) (x y : Int) (h : nW o = true) : (yY o x y).length ≤ 4 ∧ ∀ n ∈ yY o x y, fK n := aHu o 0 0 h
theorem aMp (o : Opn) (x y : Int) (h : nW o = true) : (rU o x y).length ≤ 4 ∧ ∀ n ∈ rU o x y, fK n := by
 obtain ⟨r1, r2, r3, r4, r5⟩ := aIz h
 unfold rU sD
 cases o.Kind == 5
 ·refine ⟨by simp, fun n hn => ?_⟩
  simp only [cond_false, List.mem_cons, List.not_mem_nil, or_false] at hn
  rcases hn with rfl | rfl | rfl | rfl <;> assumption
 ·refine ⟨by simp, fun n hn => ?_⟩
  simp only [cond_true, List.mem_cons, List.not_mem_nil, or_false] at hn
  rcases hn with rfl | rfl <;> assumption
theorem aJC (k x y w h n a b : Int) : pF k x y w h n a b := by
 unfold pF
 cases k == 3
 ·trivial
 ·show (2 + 2) * 8 ≤ 140737488355328
  decide
theorem aEq {ks : zzI} {k : Int} (h : fO ks k = true) : k ∈ ks := by
 induction ks with
 | nil => cases h
 | cons a l ih =>
  unfold fO at h
  cases hb : k == a with
  | true => exact List.mem_cons.2 (.inl (by simpa using hb))
  | false =>
   rw [hb] at h
   exact List.mem_cons.2 (.inr (ih h))
theorem aMz (k : Int) (h : fO [1, 2, 4, 3] k = true) : 1 ≤ (eI gQ k).size ∧ (eI gQ k).size ≤ 10 := by
 have := aEq h
 simp only [List.mem_cons, List.not_mem_nil, or_false] at this
 rcases this with rfl | rfl | rfl | rfl <;> decide
theorem aMy (k : Int) (h : fO [1, 2, 4, 3] k = true) : 1 ≤ (eI gJ k).size ∧ (eI gJ k).size ≤ 10 := by
 have := aEq h
 simp only [List.mem_cons, List.not_mem_nil, or_false] at this
 rcases this with rfl | rfl | rfl | rfl <;> decide
theorem aMx (k : Int) (h : fO [5, 6] k = true) : 1 ≤ (eI gP k).size ∧ (eI gP k).size ≤ 10 := by
 have := aEq h
 simp only [List.mem_cons, List.not_mem_nil, or_false] at this
 rcases this with rfl | rfl <;> decide
def aDc (ops : List Opn) : Prop := True
def kS (ops : List Opn) : ByteArray × Int := cond (decide (4000 < (ops.length : Int))) (ByteArray.mk #[], 4) (jH [1, 2, 4, 3] gQ yY ops ByteArray.empty 0 0)
theorem aR2 (ops : List Opn) (h : aDc ops) : ∃ F, ∀ Q : ByteArray → Int → Prop, Q ((kS ops).1) ((kS ops).2) → aCw F ops Q := by
 refine ⟨4001, fun Q hQ => ?_⟩
 unfold kS at hQ
 unfold aCw aGG
 by_cases hl : 4000 < (ops.length : Int)
 ·rw [eN hl] at hQ ⊢
  exact hQ
 ·rw [eT hl] at hQ ⊢
  simp only [cond_false] at hQ ⊢
  show oQ 4001 (fun t4 t5 t28 t29 t30 o8 aC aB => Q t4 t5) (fun t4 t5 t28 t29 t30 o8 aC aB => Q o8 0) 4001 (ByteArray.mk #[]) 0 ops (ops.length : Int) ((0 : Nat) : Int) ByteArray.empty 0 0
  refine aGS [1, 2, 4, 3] gQ yY aMz aMr ops (by omega) Q (fun i b x y => Q (ByteArray.mk #[]) 16) (fun i b x y => Q b 0) (fun n i b x y => oQ 4001 (fun t4 t5 t28 t29 t30 o8 aC aB => Q t4 t5) (fun t4 t5 t28 t29 t30 o8 aC aB => Q o8 0) n (ByteArray.mk #[]) 0 ops (ops.length : Int) i b x y)
   (fun n i o nums b x y => c7 o.Kind o.X o.Y o.W o.H o.N x y ∧ aAw 4001 (oQ 4001 (fun t4 t5 t28 t29 t30 o8 aC aB => Q t4 t5) (fun t4 t5 t28 t29 t30 o8 aC aB => Q o8 0) n) (fun t4 t5 t28 t29 t30 o8 aC aB => Q t4 t5) (fun t4 t5 t28 t29 t30 o8 aC aB => Q o8 0) (ByteArray.mk #[]) 0 ops (ops.length : Int) i nums (nums.length : Int) 0 b x y o.Kind o.X o.Y o.W o.H o.N)
   (fun n i b x y => rfl) (fun n i o nums b x y h4 hr hb hW => ?_) (fun i b x y q => q) (fun i b x y q => q) 4001 0 ByteArray.empty 0 0 (by omega) (by omega) (by decide) ?_
  ·refine ⟨aJC _ _ _ _ _ _ _ _, ?_⟩
   refine aGT nums (by omega) hr (fun n' j b' => zJ 4001 _ n' (ByteArray.mk #[]) 0 ops (ops.length : Int) i nums (nums.length : Int) j b' x y o.Kind o.X o.Y o.W o.H o.N) (fun j b' => (1 ≤ (ByteArray.mk #[10]).size ∧ b'.size + (ByteArray.mk #[10]).size ≤ 140737488355328) ∧ oQ 4001 (fun t4 t5 t28 t29 t30 o8 aC aB => Q t4 t5) (fun t4 t5 t28 t29 t30 o8 aC aB => Q o8 0) n (ByteArray.mk #[]) 0 ops (ops.length : Int) (aD (i + 1)) (b' ++ ByteArray.mk #[10]) (eO o x y).1 (eO o x y).2) (fun n' j b' => rfl) 4001 0 b (by omega) (by omega) (by omega) ?_
   have tW : (ByteArray.mk #[10]).size = 1 := rfl
   have := vH nums b hr
   exact ⟨⟨by omega, by rw [List.drop_zero]; omega⟩, hW⟩
  ·rw [List.drop_zero]
   exact hQ
def aAl (ops : List Opn) : Prop := True
def jT (ops : List Opn) : ByteArray × Int := cond (decide (4000 < (ops.length : Int))) (ByteArray.mk #[], 4) (jH [1, 2, 4, 3] gJ rV ops ByteArray.empty 0 0)
theorem aR1 (ops : List Opn) (h : aAl ops) : ∃ F, ∀ Q : ByteArray → Int → Prop, Q ((jT ops).1) ((jT ops).2) → aCv F ops Q := by
 refine ⟨4001, fun Q hQ => ?_⟩
 unfold jT at hQ
 unfold aCv aGC
 by_cases hl : 4000 < (ops.length : Int)
 ·rw [eN hl] at hQ ⊢
  exact hQ
 ·rw [eT hl] at hQ ⊢
  simp only [cond_false] at hQ ⊢
  show oP 4001 (fun t4 t5 t28 t29 t30 o8 aC aB => Q t4 t5) (fun t4 t5 t28 t29 t30 o8 aC aB => Q o8 0) 4001 (ByteArray.mk #[]) 0 ops (ops.length : Int) ((0 : Nat) : Int) ByteArray.empty 0 0
  refine aGS [1, 2, 4, 3] gJ rV aMy aHu ops (by omega) Q (fun i b x y => Q (ByteArray.mk #[]) 16) (fun i b x y => Q b 0) (fun n i b x y => oP 4001 (fun t4 t5 t28 t29 t30 o8 aC aB => Q t4 t5) (fun t4 t5 t28 t29 t30 o8 aC aB => Q o8 0) n (ByteArray.mk #[]) 0 ops (ops.length : Int) i b x y)
   (fun n i o nums b x y => pF o.Kind o.X o.Y o.W o.H o.N x y ∧ aAv 4001 (oP 4001 (fun t4 t5 t28 t29 t30 o8 aC aB => Q t4 t5) (fun t4 t5 t28 t29 t30 o8 aC aB => Q o8 0) n) (fun t4 t5 t28 t29 t30 o8 aC aB => Q t4 t5) (fun t4 t5 t28 t29 t30 o8 aC aB => Q o8 0) (ByteArray.mk #[]) 0 ops (ops.length : Int) i nums (nums.length : Int) 0 b x y o.Kind o.X o.Y o.W o.H o.N)
   (fun n i b x y => rfl) (fun n i o nums b x y h4 hr hb hW => ?_) (fun i b x y q => q) (fun i b x y q => q) 4001 0 ByteArray.empty 0 0 (by omega) (by omega) (by decide) ?_
  ·refine ⟨aJC _ _ _ _ _ _ _ _, ?_⟩
   refine aGT nums (by omega) hr (fun n' j b' => zI 4001 _ n' (ByteArray.mk #[]) 0 ops (ops.length : Int) i nums (nums.length : Int) j b' x y o.Kind o.X o.Y o.W o.H o.N) (fun j b' => (1 ≤ (ByteArray.mk #[10]).size ∧ b'.size + (ByteArray.mk #[10]).size ≤ 140737488355328) ∧ oP 4001 (fun t4 t5 t28 t29 t30 o8 aC aB => Q t4 t5) (fun t4 t5 t28 t29 t30 o8 aC aB => Q o8 0) n (ByteArray.mk #[]) 0 ops (ops.length : Int) (aD (i + 1)) (b' ++ ByteArray.mk #[10]) (eO o x y).1 (eO o x y).2) (fun n' j b' => rfl) 4001 0 b (by omega) (by omega) (by omega) ?_
   have tW : (ByteArray.mk #[10]).size = 1 := rfl
   have := vH nums b hr
   exact ⟨⟨by omega, by rw [List.drop_zero]; omega⟩, hW⟩
  ·rw [List.drop_zero]
   exact hQ
def aDb (ops : List Opn) : Prop := True
def kR (ops : List Opn) : ByteArray × Int := cond (decide (4000 < (ops.length : Int))) (ByteArray.mk #[], 4) (jH [5, 6] gP rU ops ByteArray.empty 0 0)
theorem aR0 (ops : List Opn) (h : aDb ops) : ∃ F, ∀ Q : ByteArray → Int → Prop, Q ((kR ops).1) ((kR ops).2) → aCu F ops Q := by
 refine ⟨4001, fun Q hQ => ?_⟩
 unfold kR at hQ
 unfold aCu aFy
 by_cases hl : 4000 < (ops.length : Int)
 ·rw [eN hl] at hQ ⊢
  exact hQ
 ·rw [eT hl] at hQ ⊢
  simp only [cond_false] at hQ ⊢
  show oO 4001 (fun t4 t5 t28 t29 t30 o8 aC aB => Q t4 t5) (fun t4 t5 t28 t29 t30 o8 aC aB => Q o8 0) 4001 (ByteArray.mk #[]) 0 ops (ops.length : Int) ((0 : Nat) : Int) ByteArray.empty 0 0
  refine aGS [5, 6] gP rU aMx aMp ops (by omega) Q (fun i b x y => Q (ByteArray.mk #[]) 16) (fun i b x y => Q b 0) (fun n i b x y => oO 4001 (fun t4 t5 t28 t29 t30 o8 aC aB => Q t4 t5) (fun t4 t5 t28 t29 t30 o8 aC aB => Q o8 0) n (ByteArray.mk #[]) 0 ops (ops.length : Int) i b x y)
   (fun n i o nums b x y => aAu 4001 (oO 4001 (fun t4 t5 t28 t29 t30 o8 aC aB => Q t4 t5) (fun t4 t5 t28 t29 t30 o8 aC aB => Q o8 0) n) (fun t4 t5 t28 t29 t30 o8 aC aB => Q t4 t5) (fun t4 t5 t28 t29 t30 o8 aC aB => Q o8 0) (ByteArray.mk #[]) 0 ops (ops.length : Int) i nums (nums.length : Int) 0 b x y o.Kind o.X o.Y o.W o.H o.N)
   (fun n i b x y => rfl) (fun n i o nums b x y h4 hr hb hW => ?_) (fun i b x y q => q) (fun i b x y q => q) 4001 0 ByteArray.empty 0 0 (by omega) (by omega) (by decide) ?_
  ·refine aGT nums (by omega) hr (fun n' j b' => zH 4001 _ n' (ByteArray.mk #[]) 0 ops (ops.length : Int) i nums (nums.length : Int) j b' x y o.Kind o.X o.Y o.W o.H o.N) (fun j b' => (1 ≤ (ByteArray.mk #[10]).size ∧ b'.size + (ByteArray.mk #[10]).size ≤ 140737488355328) ∧ oO 4001 (fun t4 t5 t28 t29 t30 o8 aC aB => Q t4 t5) (fun t4 t5 t28 t29 t30 o8 aC aB => Q o8 0) n (ByteArray.mk #[]) 0 ops (ops.length : Int) (aD (i + 1)) (b' ++ ByteArray.mk #[10]) (eO o x y).1 (eO o x y).2) (fun n' j b' => rfl) 4001 0 b (by omega) (by omega) (by omega) ?_
   have tW : (ByteArray.mk #[10]).size = 1 := rfl
   have := vH nums b hr
   exact ⟨⟨by omega, by rw [List.drop_zero]; omega⟩, hW⟩
  ·rw [List.drop_zero]
   exact hQ
def aAZ (m : Nat) (ops : List Opn) : ByteArray × Int := (ByteArray.mk #[], 1)
def aA0 (ops : List Opn) : ByteArray × Int := (ByteArray.mk #[], 1)
def aAY (m : Nat) (ops : List Opn) : ByteArray × Int := (ByteArray.mk #[], 1)
theorem aRZ (m : Nat) (ops : List Opn) : ∃ F, ∀ Q : ByteArray → Int → Prop, Q ((aAZ m ops).1) ((aAZ m ops).2) → aIV F m ops Q := ⟨0, fun Q h => h⟩
theorem aR3 (ops : List Opn) : ∃ F, ∀ Q : ByteArray → Int → Prop, Q ((aA0 ops).1) ((aA0 ops).2) → aIW F ops Q := ⟨0, fun Q h => h⟩
theorem aRY (m : Nat) (ops : List Opn) : ∃ F, ∀ Q : ByteArray → Int → Prop, Q ((aAY m ops).1) ((aAY m ops).2) → aIU F m ops Q := ⟨0, fun Q h => h⟩
def aHU : Nat → Nat → Nat → Canon UU := fun o b r => ⟨[], [], [], [], []⟩
def aF4  (Q : Bool → Prop) : Prop := (let r0 := (jT ([(Opn.mk 1 105 105 0 0 0), (Opn.mk 1 100 100 0 0 0), (Opn.mk 2 110 100 0 0 0)])); ((aAl ([(Opn.mk 1 105 105 0 0 0), (Opn.mk 1 100 100 0 0 0), (Opn.mk 2 110 100 0 0 0)])) ∧ (let r1 := (oS (ByteArray.mk #[115]) (ByteArray.mk #[115, 116, 101, 101, 108]) 1 0 9 9 ([]) ([]) ([(Opn.mk 2 4 0 0 0 0)])); ((aD7 (ByteArray.mk #[115]) (ByteArray.mk #[115, 116, 101, 101, 108]) 1 0 9 9 ([]) ([]) ([(Opn.mk 2 4 0 0 0 0)])) ∧ ((((((r0.2 == 0) && (r0.1 == (ByteArray.mk #[109, 32, 49, 48, 53, 32, 49, 48, 53, 10, 109, 32, 45, 53, 32, 45, 53, 10, 108, 32, 49, 48, 32, 48, 10]))) && (r1.2.2 == 0)) && ((r1.1.length : Int) == 1)) = true → 0 ≤ (0 : Int) ∧ (0 : Int) < r1.1.length) ∧ Q (((((r0.2 == 0) && (r0.1 == (ByteArray.mk #[109, 32, 49, 48, 53, 32, 49, 48, 53, 10, 109, 32, 45, 53, 32, 45, 53, 10, 108, 32, 49, 48, 32, 48, 10]))) && (r1.2.2 == 0)) && ((r1.1.length : Int) == 1)) && ((((r1.1.getD 0 default).X1) == 0) && ((((r1.1.getD 0 default).Y1) == 0) && ((((r1.1.getD 0 default).X2) == 4) && ((((r1.1.getD 0 default).Y2) == 0) && true))))))))))
def aCj (F : Nat)  (Q : Bool → Prop) : Prop := aF4  Q
def aAW : Bool := true
theorem aT4 : oS (ByteArray.mk #[115]) (ByteArray.mk #[115, 116, 101, 101, 108]) 1 0 9 9 ([]) ([]) ([(Opn.mk 2 4 0 0 0 0)]) = ([Seg.mk 0 0 4 0], [], 0) := by
 kernel_rfl
theorem aT5 : jT ([(Opn.mk 1 105 105 0 0 0), (Opn.mk 1 100 100 0 0 0), (Opn.mk 2 110 100 0 0 0)]) = (ByteArray.mk #[109, 32, 49, 48, 53, 32, 49, 48, 53, 10, 109, 32, 45, 53, 32, 45, 53, 10, 108, 32, 49, 48, 32, 48, 10], 0) := by
 kernel_rfl
theorem aRK  : ∃ F, ∀ Q : Bool → Prop, Q aAW → aCj F  Q := by
 refine ⟨0, fun Q hQ => ?_⟩
 unfold aCj aF4
 dsimp only
 rw [aT4, aT5]
 exact ⟨trivial, trivial, fun _ => by decide, hQ⟩
def aHH : Nat → Nat → Nat → Canon UU := fun o b r => ⟨[], [], [], [], []⟩
def aFJ (a0 : Int) (a1 : zzI) (cJ cI : Int) (Q : Int → Int → Int → Int → Int → Int → Prop) : Prop := cond (decide (2 ≤ (a1.length : Int))) (((0 ≤ (0 : Int) ∧ (0 : Int) < a1.length) ∧ ((0 ≤ (1 : Int) ∧ (1 : Int) < a1.length) ∧ cond ((a0 == 3) && (decide (4 ≤ (a1.length : Int)))) (((0 ≤ (2 : Int) ∧ (2 : Int) < a1.length) ∧ ((0 ≤ (3 : Int) ∧ (3 : Int) < a1.length) ∧ Q a0 (aD ((a1.getD 0 default) + cJ)) (aD ((a1.getD 1 default) + cI)) (a1.getD 2 default) (a1.getD 3 default) 0))) (Q a0 (aD ((a1.getD 0 default) + cJ)) (aD ((a1.getD 1 default) + cI)) 0 0 0)))) (cond ((a0 == 3) && (decide (4 ≤ (a1.length : Int)))) (((0 ≤ (2 : Int) ∧ (2 : Int) < a1.length) ∧ ((0 ≤ (3 : Int) ∧ (3 : Int) < a1.length) ∧ Q a0 0 0 (a1.getD 2 default) (a1.getD 3 default) 0))) (Q a0 0 0 0 0 0))
def aC4 (F : Nat) (a0 : Int) (a1 : zzI) (cJ cI : Int) (Q : Int → Int → Int → Int → Int → Int → Prop) : Prop := aFJ a0 a1 cJ cI Q
def qK (a0 : Int) (a1 : zzI) (cJ cI : Int) : Prop := (cond (decide (2 ≤ (a1.length : Int))) ((0 ≤ (0 : Int) ∧ (0 : Int) < a1.length) ∧ (0 ≤ (1 : Int) ∧ (1 : Int) < a1.length) ∧ (cond ((a0 == 3) && (decide (4 ≤ (a1.length : Int)))) ((0 ≤ (2 : Int) ∧ (2 : Int) < a1.length) ∧ (0 ≤ (3 : Int) ∧ (3 : Int) < a1.length)) (True))) ((cond ((a0 == 3) && (decide (4 ≤ (a1.length : Int)))) ((0 ≤ (2 : Int) ∧ (2 : Int) < a1.length) ∧ (0 ≤ (3 : Int) ∧ (3 : Int) < a1.length)) (True))))
def fH (a0 : Int) (a1 : zzI) (cJ cI : Int) : Int × Int × Int × Int × Int × Int := cond (decide (2 ≤ (a1.length : Int))) (cond ((a0 == 3) && (decide (4 ≤ (a1.length : Int)))) ((a0, aD ((a1.getD 0 default) + cJ), aD ((a1.getD 1 default) + cI), (a1.getD 2 default), (a1.getD 3 default), 0)) ((a0, aD ((a1.getD 0 default) + cJ), aD ((a1.getD 1 default) + cI), 0, 0, 0))) (cond ((a0 == 3) && (decide (4 ≤ (a1.length : Int)))) ((a0, 0, 0, (a1.getD 2 default), (a1.getD 3 default), 0)) ((a0, 0, 0, 0, 0, 0)))
theorem aQv (a0 : Int) (a1 : zzI) (cJ cI : Int) (hp : qK a0 a1 cJ cI) : ∃ F, ∀ Q : Int → Int → Int → Int → Int → Int → Prop, Q ((fH a0 a1 cJ cI).1) ((fH a0 a1 cJ cI).2.1) ((fH a0 a1 cJ cI).2.2.1) ((fH a0 a1 cJ cI).2.2.2.1) ((fH a0 a1 cJ cI).2.2.2.2.1) ((fH a0 a1 cJ cI).2.2.2.2.2) → aC4 F a0 a1 cJ cI Q := by
 refine ⟨0, fun Q h => ?_⟩
 unfold aC4 aFJ
 unfold fH at h
 unfold qK at hp
 cases dZ : (decide (2 ≤ (a1.length : Int)))
 ·try simp only [dZ, cond_false] at h hp ⊢
  cases cH : (((a0 == 3) && (decide (4 ≤ (a1.length : Int)))))
  ·try simp only [cH, cond_false] at h hp ⊢
   exact h
  ·try simp only [cH, cond_true] at h hp ⊢
   obtain ⟨o9, hp⟩ := hp
   refine ⟨o9, ?_⟩
   have aEp := hp
   refine ⟨aEp, ?_⟩
   exact h
 ·try simp only [dZ, cond_true] at h hp ⊢
  obtain ⟨aEo, hp⟩ := hp
  refine ⟨aEo, ?_⟩
  obtain ⟨aEn, hp⟩ := hp
  refine ⟨aEn, ?_⟩
  cases hb6 : (((a0 == 3) && (decide (4 ≤ (a1.length : Int)))))
  ·try simp only [hb6, cond_false] at h hp ⊢
   exact h
  ·try simp only [hb6, cond_true] at h hp ⊢
   obtain ⟨aEm, hp⟩ := hp
   refine ⟨aEm, ?_⟩
   have aUI := hp
   refine ⟨aUI, ?_⟩
   exact h
def aHL : Nat → Nat → Nat → Canon UU := fun o b r => ⟨[], [], [], [], []⟩
def aFS (a0 : Int) (a1 : zzI) (cJ cI : Int) (Q : Int → Int → Int → Int → Int → Int → Prop) : Prop := ((qK a0 a1 0 0) ∧ Q ((fH a0 a1 0 0).1) ((fH a0 a1 0 0).2.1) ((fH a0 a1 0 0).2.2.1) ((fH a0 a1 0 0).2.2.2.1) ((fH a0 a1 0 0).2.2.2.2.1) ((fH a0 a1 0 0).2.2.2.2.2))
def aC9 (F : Nat) (a0 : Int) (a1 : zzI) (cJ cI : Int) (Q : Int → Int → Int → Int → Int → Int → Prop) : Prop := aFS a0 a1 cJ cI Q
def aAh (a0 : Int) (a1 : zzI) (cJ cI : Int) : Prop := (qK a0 a1 0 0)
def jR (a0 : Int) (a1 : zzI) (cJ cI : Int) : Int × Int × Int × Int × Int × Int := ((fH a0 a1 0 0).1, (fH a0 a1 0 0).2.1, (fH a0 a1 0 0).2.2.1, (fH a0 a1 0 0).2.2.2.1, (fH a0 a1 0 0).2.2.2.2.1, (fH a0 a1 0 0).2.2.2.2.2)
theorem aRA (a0 : Int) (a1 : zzI) (cJ cI : Int) (hp : aAh a0 a1 cJ cI) : ∃ F, ∀ Q : Int → Int → Int → Int → Int → Int → Prop, Q ((jR a0 a1 cJ cI).1) ((jR a0 a1 cJ cI).2.1) ((jR a0 a1 cJ cI).2.2.1) ((jR a0 a1 cJ cI).2.2.2.1) ((jR a0 a1 cJ cI).2.2.2.2.1) ((jR a0 a1 cJ cI).2.2.2.2.2) → aC9 F a0 a1 cJ cI Q := by
 refine ⟨0, fun Q h => ?_⟩
 unfold aC9 aFS
 unfold jR at h
 unfold aAh at hp
 have mU := hp
 refine ⟨mU, ?_⟩
 exact h
def aHI : Nat → Nat → Nat → Canon UU := fun o b r => ⟨[], [], [], [], []⟩
def aFK (a0 : Int) (a1 : zzI) (cJ cI : Int) (Q : Int → Int → Int → Int → Int → Int → Prop) : Prop := cond ((a0 == 5) && (decide (2 ≤ (a1.length : Int)))) (((0 ≤ (0 : Int) ∧ (0 : Int) < a1.length) ∧ ((0 ≤ (1 : Int) ∧ (1 : Int) < a1.length) ∧ cond ((a0 == 6) && (decide (4 ≤ (a1.length : Int)))) (((0 ≤ (0 : Int) ∧ (0 : Int) < a1.length) ∧ ((0 ≤ (1 : Int) ∧ (1 : Int) < a1.length) ∧ ((0 ≤ (2 : Int) ∧ (2 : Int) < a1.length) ∧ ((0 ≤ (3 : Int) ∧ (3 : Int) < a1.length) ∧ Q a0 (a1.getD 1 default) (a1.getD 2 default) (a1.getD 3 default) 0 (a1.getD 0 default)))))) (Q a0 (a1.getD 0 default) 0 0 0 (a1.getD 1 default))))) (cond ((a0 == 6) && (decide (4 ≤ (a1.length : Int)))) (((0 ≤ (0 : Int) ∧ (0 : Int) < a1.length) ∧ ((0 ≤ (1 : Int) ∧ (1 : Int) < a1.length) ∧ ((0 ≤ (2 : Int) ∧ (2 : Int) < a1.length) ∧ ((0 ≤ (3 : Int) ∧ (3 : Int) < a1.length) ∧ Q a0 (a1.getD 1 default) (a1.getD 2 default) (a1.getD 3 default) 0 (a1.getD 0 default)))))) (Q a0 0 0 0 0 0))
def aC5 (F : Nat) (a0 : Int) (a1 : zzI) (cJ cI : Int) (Q : Int → Int → Int → Int → Int → Int → Prop) : Prop := aFK a0 a1 cJ cI Q
def wA (a0 : Int) (a1 : zzI) (cJ cI : Int) : Prop := (cond ((a0 == 5) && (decide (2 ≤ (a1.length : Int)))) ((0 ≤ (0 : Int) ∧ (0 : Int) < a1.length) ∧ (0 ≤ (1 : Int) ∧ (1 : Int) < a1.length) ∧ (cond ((a0 == 6) && (decide (4 ≤ (a1.length : Int)))) ((0 ≤ (0 : Int) ∧ (0 : Int) < a1.length) ∧ (0 ≤ (1 : Int) ∧ (1 : Int) < a1.length) ∧ (0 ≤ (2 : Int) ∧ (2 : Int) < a1.length) ∧ (0 ≤ (3 : Int) ∧ (3 : Int) < a1.length)) (True))) ((cond ((a0 == 6) && (decide (4 ≤ (a1.length : Int)))) ((0 ≤ (0 : Int) ∧ (0 : Int) < a1.length) ∧ (0 ≤ (1 : Int) ∧ (1 : Int) < a1.length) ∧ (0 ≤ (2 : Int) ∧ (2 : Int) < a1.length) ∧ (0 ≤ (3 : Int) ∧ (3 : Int) < a1.length)) (True))))
def jA (a0 : Int) (a1 : zzI) (cJ cI : Int) : Int × Int × Int × Int × Int × Int := cond ((a0 == 5) && (decide (2 ≤ (a1.length : Int)))) (cond ((a0 == 6) && (decide (4 ≤ (a1.length : Int)))) ((a0, (a1.getD 1 default), (a1.getD 2 default), (a1.getD 3 default), 0, (a1.getD 0 default))) ((a0, (a1.getD 0 default), 0, 0, 0, (a1.getD 1 default)))) (cond ((a0 == 6) && (decide (4 ≤ (a1.length : Int)))) ((a0, (a1.getD 1 default), (a1.getD 2 default), (a1.getD 3 default), 0, (a1.getD 0 default))) ((a0, 0, 0, 0, 0, 0)))
theorem aQw (a0 : Int) (a1 : zzI) (cJ cI : Int) (hp : wA a0 a1 cJ cI) : ∃ F, ∀ Q : Int → Int → Int → Int → Int → Int → Prop, Q ((jA a0 a1 cJ cI).1) ((jA a0 a1 cJ cI).2.1) ((jA a0 a1 cJ cI).2.2.1) ((jA a0 a1 cJ cI).2.2.2.1) ((jA a0 a1 cJ cI).2.2.2.2.1) ((jA a0 a1 cJ cI).2.2.2.2.2) → aC5 F a0 a1 cJ cI Q := by
 refine ⟨0, fun Q h => ?_⟩
 unfold aC5 aFK
 unfold jA at h
 unfold wA at hp
 cases dZ : (((a0 == 5) && (decide (2 ≤ (a1.length : Int)))))
 ·try simp only [dZ, cond_false] at h hp ⊢
  cases cH : (((a0 == 6) && (decide (4 ≤ (a1.length : Int)))))
  ·try simp only [cH, cond_false] at h hp ⊢
   exact h
  ·try simp only [cH, cond_true] at h hp ⊢
   obtain ⟨o9, hp⟩ := hp
   refine ⟨o9, ?_⟩
   obtain ⟨aEp, hp⟩ := hp
   refine ⟨aEp, ?_⟩
   obtain ⟨aEo, hp⟩ := hp
   refine ⟨aEo, ?_⟩
   have aEn := hp
   refine ⟨aEn, ?_⟩
   exact h
 ·try simp only [dZ, cond_true] at h hp ⊢
  obtain ⟨aUJ, hp⟩ := hp
  refine ⟨aUJ, ?_⟩
  obtain ⟨aEm, hp⟩ := hp
  refine ⟨aEm, ?_⟩
  cases hb8 : (((a0 == 6) && (decide (4 ≤ (a1.length : Int)))))
  ·try simp only [hb8, cond_false] at h hp ⊢
   exact h
  ·try simp only [hb8, cond_true] at h hp ⊢
   obtain ⟨aUH, hp⟩ := hp
   refine ⟨aUH, ?_⟩
   obtain ⟨aUN, hp⟩ := hp
   refine ⟨aUN, ?_⟩
   obtain ⟨aUM, hp⟩ := hp
   refine ⟨aUM, ?_⟩
   have aUL := hp
   refine ⟨aUL, ?_⟩
   exact h
def aHN : Nat → Nat → Nat → Canon UU := fun o b r => ⟨[], [], [], [], []⟩
def aFU (a0 a1 : ByteArray) (Q : Bool → Prop) : Prop := (((decide ((a1.size : Int) ≤ (a0.size : Int))) = true → 0 ≤ (aD ((a0.size : Int) - (a1.size : Int))) ∧ (aD ((a0.size : Int) - (a1.size : Int))) ≤ a0.size) ∧ Q ((decide ((a1.size : Int) ≤ (a0.size : Int))) && ((a0.extract ((aD ((a0.size : Int) - (a1.size : Int))).toNat) a0.size) == a1)))
def aCb (F : Nat) (a0 a1 : ByteArray) (Q : Bool → Prop) : Prop := aFU a0 a1 Q
def wB (a0 a1 : ByteArray) : Prop := ((decide ((a1.size : Int) ≤ (a0.size : Int))) = true → 0 ≤ (aD ((a0.size : Int) - (a1.size : Int))) ∧ (aD ((a0.size : Int) - (a1.size : Int))) ≤ a0.size)
def pZ (a0 a1 : ByteArray) : Bool := ((decide ((a1.size : Int) ≤ (a0.size : Int))) && ((a0.extract ((aD ((a0.size : Int) - (a1.size : Int))).toNat) a0.size) == a1))
theorem aRB (a0 a1 : ByteArray) (hp : wB a0 a1) : ∃ F, ∀ Q : Bool → Prop, Q (pZ a0 a1) → aCb F a0 a1 Q := by
 refine ⟨0, fun Q h => ?_⟩
 unfold aCb aFU
 unfold pZ at h
 unfold wB at hp
 have mU := hp
 refine ⟨mU, ?_⟩
 exact h
def aH4 : Nat → Nat → Nat → Canon UU := fun o b r => ⟨[], [], [], [], []⟩
def aFe (a0 a1 : ByteArray) (Q : ByteArray → Prop) : Prop := ((wB a0 a1) ∧ cond (pZ a0 a1) (((0 ≤ (aD ((a0.size : Int) - (a1.size : Int))) ∧ (aD ((a0.size : Int) - (a1.size : Int))) ≤ a0.size) ∧ Q (a0.extract 0 ((aD ((a0.size : Int) - (a1.size : Int))).toNat)))) (Q a0))
def aCt (F : Nat) (a0 a1 : ByteArray) (Q : ByteArray → Prop) : Prop := aFe a0 a1 Q
def wC (a0 a1 : ByteArray) : Prop := (wB a0 a1) ∧ (cond (pZ a0 a1) ((0 ≤ (aD ((a0.size : Int) - (a1.size : Int))) ∧ (aD ((a0.size : Int) - (a1.size : Int))) ≤ a0.size)) (True))
def vW (a0 a1 : ByteArray) : ByteArray := cond (pZ a0 a1) (a0.extract 0 ((aD ((a0.size : Int) - (a1.size : Int))).toNat)) (a0)
theorem aRW (a0 a1 : ByteArray) (hp : wC a0 a1) : ∃ F, ∀ Q : ByteArray → Prop, Q (vW a0 a1) → aCt F a0 a1 Q := by
 refine ⟨0, fun Q h => ?_⟩
 unfold aCt aFe
 unfold vW at h
 unfold wC at hp
 obtain ⟨mU, hp⟩ := hp
 refine ⟨mU, ?_⟩
 cases cH : ((pZ a0 a1))
 ·try simp only [cH, cond_false] at h hp ⊢
  exact h
 ·try simp only [cH, cond_true] at h hp ⊢
  have o9 := hp
  refine ⟨o9, ?_⟩
  exact h
def aHJ : Nat → Nat → Nat → Canon UU := fun o b r => ⟨[], [], [], [], []⟩
def aFQ (a0 a1 : ByteArray) (Q : ByteArray → Prop) : Prop := ((wC a0 a1) ∧ Q (vW a0 a1))
def aC7 (F : Nat) (a0 a1 : ByteArray) (Q : ByteArray → Prop) : Prop := aFQ a0 a1 Q
def qL (a0 a1 : ByteArray) : Prop := (wC a0 a1)
def pY (a0 a1 : ByteArray) : ByteArray := (vW a0 a1)
theorem aQy (a0 a1 : ByteArray) (hp : qL a0 a1) : ∃ F, ∀ Q : ByteArray → Prop, Q (pY a0 a1) → aC7 F a0 a1 Q := by
 refine ⟨0, fun Q h => ?_⟩
 unfold aC7 aFQ
 unfold pY at h
 unfold qL at hp
 have mU := hp
 refine ⟨mU, ?_⟩
 exact h
def aH0 : Nat → Nat → Nat → Canon UU := fun o b r => ⟨[], [], [], [], []⟩
def aFa (a0 : Int) (Q : List ByteArray → Prop) : Prop := cond (a0 == 2) (Q ([ByteArray.mk #[], ByteArray.mk #[109], ByteArray.mk #[108], ByteArray.mk #[115], ByteArray.mk #[98], ByteArray.mk #[], ByteArray.mk #[]])) (Q ([ByteArray.mk #[], ByteArray.mk #[109, 111, 118, 101], ByteArray.mk #[108, 105, 110, 101], ByteArray.mk #[115, 116, 97, 109, 112], ByteArray.mk #[98, 114, 101, 97, 107], ByteArray.mk #[109, 111, 117, 110, 116], ByteArray.mk #[98, 101, 110, 100]]))
def aCp (F : Nat) (a0 : Int) (Q : List ByteArray → Prop) : Prop := aFa a0 Q
def hG (a0 : Int) : (List ByteArray) := cond (a0 == 2) ([ByteArray.mk #[], ByteArray.mk #[109], ByteArray.mk #[108], ByteArray.mk #[115], ByteArray.mk #[98], ByteArray.mk #[], ByteArray.mk #[]]) ([ByteArray.mk #[], ByteArray.mk #[109, 111, 118, 101], ByteArray.mk #[108, 105, 110, 101], ByteArray.mk #[115, 116, 97, 109, 112], ByteArray.mk #[98, 114, 101, 97, 107], ByteArray.mk #[109, 111, 117, 110, 116], ByteArray.mk #[98, 101, 110, 100]])
theorem aRR (a0 : Int) : ∃ F, ∀ Q : List ByteArray → Prop, Q (hG a0) → aCp F a0 Q := by
 refine ⟨0, fun Q h => ?_⟩
 unfold aCp aFa
 unfold hG at h
 cases dZ : (a0 == 2)
 ·try simp only [dZ, cond_false] at h ⊢
  exact h
 ·try simp only [dZ, cond_true] at h ⊢
  exact h
def rQ : Nat → Nat → Nat → Canon UU := fun o b r => cond (Nat.beq b 0) ⟨[0, 3, 4], [], [], [], []⟩ (⟨[], [], [], [], []⟩)
def lR (t0 : zzI) (t3 : ByteArray) (t4 : Int) : ASt UU := ⟨fun u => cond (Nat.beq u 0) (.sl .int t0) (cond (Nat.beq u 3) (.str t3) (cond (Nat.beq u 4) (.int .i64 t4) (.any))), fun u => none⟩
def aLO (a0 : zzI) (Q : ByteArray → Prop) (i0 : zzI → ByteArray → Int → Prop) : Prop := i0 a0 (ByteArray.mk #[]) 0
def aBf (rec : zzI → ByteArray → Int → Prop) (x0 : zzI → ByteArray → Int → Prop) (t0 : zzI) (t3 : ByteArray) (t4 : Int) : Prop := cond (decide (t4 < (t0.length : Int))) ((let e0 := (t0.getD t4.toNat default); (((0 ≤ t4 ∧ t4 < t0.length) ∧ ((-9223372036854775808 ≤ e0 ∧ e0 ≤ 9223372036854775807) ∧ ((((ByteArray.mk #[32]).size : Int) + (fF e0).size ≤ 9223372036854775807) ∧ ((t3.size : Int) + ((ByteArray.mk #[32]) ++ (fF e0)).size ≤ 9223372036854775807)))) ∧ rec t0 (t3 ++ ((ByteArray.mk #[32]) ++ (fF e0))) (aD (t4 + 1))))) (x0 t0 t3 t4)
def aBg (Q : ByteArray → Prop) (t0 : zzI) (t3 : ByteArray) (t4 : Int) : Prop := Q t3
def zF (F : Nat) (x0 : zzI → ByteArray → Int → Prop) : Nat → zzI → ByteArray → Int → Prop
 | 0, _, _, _ => False
 | n + 1, t0, t3, t4 => aBf (zF F x0 n) x0 t0 t3 t4
def aEK (F : Nat) (Q : ByteArray → Prop) (t0 : zzI) (t3 : ByteArray) (t4 : Int) : Prop := zF F (fun t0 t3 t4 => aBg Q t0 t3 t4) F t0 t3 t4
def aIE (F : Nat) (a0 : zzI) (Q : ByteArray → Prop) : Prop := aLO a0 Q (aEK F Q)
def rP : Nat → Nat → Nat → Canon UU := fun o b r => cond (Nat.beq b 0) ⟨[0, 1, 5, 6, 7], [], [(.tmp 5, 35, .str)], [], []⟩ (⟨[], [], [], [], []⟩)
def lQ (t0 : ByteArray) (t1 t6 t7 : Int) (dQ : List ByteArray) : ASt UU := ⟨fun u => cond (Nat.beq u 0) (.str t0) (cond (Nat.beq u 1) (.int .u8 t1) (cond (Nat.beq u 5) (.osl 35 0) (cond (Nat.beq u 6) (.int .i64 t6) (cond (Nat.beq u 7) (.int .i64 t7) (.any))))), fun u => cond (Nat.beq u 35) (some (.row .str 0 dQ)) (none)⟩
def aLN (a0 : ByteArray) (a1 : Int) (Q : List ByteArray → Prop) (i0 : ByteArray → Int → Int → Int → List ByteArray → Prop) : Prop := i0 a0 a1 0 0 ([])
def wX (rec : ByteArray → Int → Int → Int → List ByteArray → Prop) (x0 : ByteArray → Int → Int → Int → List ByteArray → Prop) (t0 : ByteArray) (t1 t6 t7 : Int) (dQ : List ByteArray) : Prop := cond (decide (t7 ≤ (t0.size : Int))) ((let v0 := ((t0.data.toList.getD t7.toNat 0).toNat : Int); (((t7 == (t0.size : Int)) = false → 0 ≤ t7 ∧ t7 < t0.size) ∧ cond ((t7 == (t0.size : Int)) || (v0 == t1)) ((((0 ≤ t6 ∧ t6 ≤ t7 ∧ t7 ≤ t0.size) ∧ ((dQ.length + ([t0.extract t6.toNat t7.toNat]).length) * 16 ≤ 140737488355328)) ∧ rec t0 t1 (aD (t7 + 1)) (aD (t7 + 1)) (dQ ++ ([t0.extract t6.toNat t7.toNat])))) (rec t0 t1 t6 (aD (t7 + 1)) dQ)))) (x0 t0 t1 t6 t7 dQ)
def aBe (Q : List ByteArray → Prop) (t0 : ByteArray) (t1 t6 t7 : Int) (dQ : List ByteArray) : Prop := Q dQ
def zE (F : Nat) (x0 : ByteArray → Int → Int → Int → List ByteArray → Prop) : Nat → ByteArray → Int → Int → Int → List ByteArray → Prop
 | 0, _, _, _, _, _ => False
 | n + 1, t0, t1, t6, t7, dQ => wX (zE F x0 n) x0 t0 t1 t6 t7 dQ
def aEJ (F : Nat) (Q : List ByteArray → Prop) (t0 : ByteArray) (t1 t6 t7 : Int) (dQ : List ByteArray) : Prop := zE F (fun t0 t1 t6 t7 dQ => aBe Q t0 t1 t6 t7 dQ) F t0 t1 t6 t7 dQ
def aID (F : Nat) (a0 : ByteArray) (a1 : Int) (Q : List ByteArray → Prop) : Prop := aLN a0 a1 Q (aEJ F Q)
def rI : Nat → Nat → Nat → Canon UU := fun o b r => cond (Nat.beq b 0) ⟨[0, 2, 3, 4, 5, 6], [], [], [], []⟩ (⟨[], [], [], [], []⟩)
def iI (t0 : ByteArray) (t2 : Int) (t3 : Bool) (t4 t5 t6 : Int) : ASt UU := ⟨fun u => cond (Nat.beq u 0) (.str t0) (cond (Nat.beq u 2) (.int .i64 t2) (cond (Nat.beq u 3) (.bool t3) (cond (Nat.beq u 4) (.int .i64 t4) (cond (Nat.beq u 5) (.int .i64 t5) (cond (Nat.beq u 6) (.int .i64 t6) (.any)))))), fun u => none⟩
def aEt (a0 : ByteArray) (Q : Int → Bool → Prop) (i0 : ByteArray → Int → Bool → Int → Int → Int → Prop) : Prop := (((decide (0 < (a0.size : Int))) = true → 0 ≤ (0 : Int) ∧ (0 : Int) < a0.size) ∧ cond ((decide (0 < (a0.size : Int))) && (((a0.data.toList.getD 0 0).toNat : Int) == 45)) (((0 ≤ (1 : Int) ∧ (1 : Int) ≤ a0.size) ∧ cond ((((a0.extract 1 a0.size).size : Int) == 0) || (decide (8 < ((a0.extract 1 a0.size).size : Int)))) (Q 0 false) (i0 (a0.extract 1 a0.size) 0 false (-1) 0 0))) (cond (((a0.size : Int) == 0) || (decide (8 < (a0.size : Int)))) (Q 0 false) (i0 a0 0 false 1 0 0)))
def aBU (rec : ByteArray → Int → Bool → Int → Int → Int → Prop) (x0 : ByteArray → Int → Bool → Int → Int → Int → Prop) (x1 : ByteArray → Int → Bool → Int → Int → Int → Prop) (t0 : ByteArray) (t2 : Int) (t3 : Bool) (t4 t5 t6 : Int) : Prop := cond (decide (t6 < (t0.size : Int))) ((let v0 := ((t0.data.toList.getD t6.toNat 0).toNat : Int); (((0 ≤ t6 ∧ t6 < t0.size) ∧ ((decide (v0 < 48)) = false → 0 ≤ t6 ∧ t6 < t0.size)) ∧ cond ((decide (v0 < 48)) || (decide (57 < v0))) (x0 t0 0 false t4 t5 t6) ((let v1 := ((t0.data.toList.getD t6.toNat 0).toNat : Int); (let v2 := aD ((aD (10 * t5)) + (aD (IntKind.u8.wrap (v1 - 48)))); ((0 ≤ t6 ∧ t6 < t0.size) ∧ rec t0 t2 t3 t4 v2 (aD (t6 + 1))))))))) (x1 t0 t2 t3 t4 t5 t6)
def aBW (Q : Int → Bool → Prop) (t0 : ByteArray) (t2 : Int) (t3 : Bool) (t4 t5 t6 : Int) : Prop := Q t2 t3
def aBV (Q : Int → Bool → Prop) (t0 : ByteArray) (t2 : Int) (t3 : Bool) (t4 t5 t6 : Int) : Prop := Q (aD (t4 * t5)) true
def vI (F : Nat) (x0 : ByteArray → Int → Bool → Int → Int → Int → Prop) (x1 : ByteArray → Int → Bool → Int → Int → Int → Prop) : Nat → ByteArray → Int → Bool → Int → Int → Int → Prop
 | 0, _, _, _, _, _, _ => False
 | n + 1, t0, t2, t3, t4, t5, t6 => aBU (vI F x0 x1 n) x0 x1 t0 t2 t3 t4 t5 t6
def aAt (F : Nat) (Q : Int → Bool → Prop) (t0 : ByteArray) (t2 : Int) (t3 : Bool) (t4 t5 t6 : Int) : Prop := vI F (fun t0 t2 t3 t4 t5 t6 => aBW Q t0 t2 t3 t4 t5 t6) (fun t0 t2 t3 t4 t5 t6 => aBV Q t0 t2 t3 t4 t5 t6) F t0 t2 t3 t4 t5 t6
def aCR (F : Nat) (a0 : ByteArray) (Q : Int → Bool → Prop) : Prop := aEt a0 Q (aAt F Q)
end
end Go.Proofs.YteffpgliiilnjaaGreatDoor
namespace Go.Proofs.YteffpgliiilnjaaGreatDoor
open Go.Vm Go.RowKit
set_option linter.unusedVariables false
def pcs (c : UInt8) : List UInt8 → List (List UInt8)
 | [] => [[]]
 | b :: l => if b = c then [] :: pcs c l else match pcs c l with
  | [] => [[b]]
  | p :: ps => (b :: p) :: ps
theorem qM (c : UInt8) : ∀ l, pcs c l ≠ []
 | [] => by simp [pcs]
 | b :: l => by
  unfold pcs
  split
  ·simp
  ·split <;> simp
theorem aJE (c b : UInt8) (l : List UInt8) (h : b ≠ c) : ∃ p ps, pcs c l = p :: ps ∧ pcs c (b :: l) = (b :: p) :: ps := by
 cases hp : pcs c l with
 | nil => exact absurd hp (qM c l)
 | cons p ps => exact ⟨p, ps, rfl, by rw [pcs, if_neg h, hp]⟩
theorem e7 {c : UInt8} : ∀ {l : List UInt8}, c ∉ l → pcs c l = [l]
 | [], _ => rfl
 | b :: l, h => by
  rw [List.mem_cons, not_or] at h
  rw [pcs, if_neg (fun e => h.1 e.symm), e7 h.2]
theorem wD {c : UInt8} : ∀ {a l : List UInt8}, c ∉ a → pcs c (a ++ c :: l) = a :: pcs c l
 | [], l, _ => by rw [List.nil_append, pcs, if_pos rfl]
 | b :: a, l, h => by
  rw [List.mem_cons, not_or] at h
  rw [List.cons_append, pcs, if_neg (fun e => h.1 e.symm), wD h.2]
theorem j0 (c : UInt8) : ∀ (l : List UInt8), ∀ p ∈ pcs c l, p.length ≤ l.length
 | [], p, hp => by
  rw [pcs, List.mem_singleton] at hp
  subst hp
  exact Nat.le_refl _
 | b :: l, p, hp => by
  by_cases h : b = c
  ·rw [pcs, if_pos h] at hp
   rcases List.mem_cons.1 hp with rfl | hp
   ·exact Nat.zero_le _
   ·exact Nat.le_succ_of_le (j0 c l p hp)
  ·obtain ⟨q, qs, e1, e2⟩ := aJE c b l h
   rw [e2] at hp
   rcases List.mem_cons.1 hp with rfl | hp
   ·exact Nat.succ_le_succ (j0 c l q (by rw [e1]; exact List.mem_cons_self ..))
   ·exact Nat.le_succ_of_le (j0 c l p (by rw [e1]; exact List.mem_cons_of_mem _ hp))
theorem aAo (c : UInt8) : ∀ (l : List UInt8), (pcs c l).length ≤ l.length + 1
 | [] => Nat.le_refl _
 | b :: l => by
  by_cases h : b = c
  ·rw [pcs, if_pos h]
   exact Nat.succ_le_succ (aAo c l)
  ·obtain ⟨q, qs, e1, e2⟩ := aJE c b l h
   have := aAo c l
   rw [e1] at this
   rw [e2]
   exact Nat.le_succ_of_le this
theorem aKw {c : UInt8} : ∀ {a l : List UInt8}, c ∉ a → Lib.index (a ++ c :: l) [c] = (a.length : Int)
 | [], l, _ => by rw [List.nil_append, Lib.index_one, Lib.indexByte, if_pos (by simp)]; rfl
 | b :: a, l, h => by
  rw [List.mem_cons, not_or] at h
  have ih := aKw (l := l) h.2
  rw [Lib.index_one] at ih ⊢
  rw [List.cons_append, Lib.indexByte, if_neg (by simpa using fun e => h.1 e.symm), ih, if_neg (by simp)]
  simp
theorem aI6 (c : UInt8) : ∀ (k : Nat) (s : List UInt8), s.count c = k → Lib.splitK [c] 0 k s = pcs c s
 | 0, s, h => by
  rw [Lib.splitK, e7 (List.count_eq_zero.1 h)]
 | k + 1, s, h => by
  have hm : c ∈ s := List.count_pos_iff.1 (by omega)
  obtain ⟨a, l, rfl, ha⟩ := List.eq_append_cons_of_mem hm
  have hc : l.count c = k := by
   rw [List.count_append, List.count_eq_zero.2 ha, List.count_cons_self] at h
   omega
  rw [Lib.splitK, aKw ha, wD ha, if_neg (by simp)]
  have e1 : ((a.length : Int)).toNat = a.length := by omega
  rw [e1]
  have e2 : (a ++ c :: l).drop (a.length + [c].length) = l := by simp
  rw [e2, aI6 c k l hc]
  simp
theorem aMJ : ∀ (a b : List UInt8) (acc n : Nat), Lib.decFrom acc a = some n → Lib.decFrom acc (a ++ b) = Lib.decFrom n b
 | [], b, acc, n, h => by cases h; rfl
 | x :: a, b, acc, n, h => by
  rw [List.cons_append, Lib.decFrom]
  rw [Lib.decFrom] at h
  split at h
  ·rename_i d hd
   exact aMJ a b _ n h
  ·cases h
theorem aG7 {d : Nat} (h : d < 10) : (UInt8.ofNat (48 + d)).toNat = 48 + d := by
 rw [UInt8.toNat_ofNat']
 omega
theorem aMF {d : Nat} (h : d < 10) : Lib.digitVal (UInt8.ofNat (48 + d)) = some d := by
 unfold Lib.digitVal
 rw [aG7 h, if_pos (by omega)]
 simp
theorem aGd (u : Nat) : Lib.decFrom 0 (Lib.decDigits u) = some u := by
 induction u using Nat.strongRecOn with
 | _ u ih =>
  rw [Lib.decDigits]
  split
  ·rename_i h
   rw [Lib.decFrom, aMF h]
   simp [Lib.decFrom]
  ·rename_i h
   rw [aMJ _ _ _ _ (ih (u / 10) (by omega)), Lib.decFrom, aMF (by omega)]
   simp only [Lib.decFrom, Option.some.injEq]
   omega
theorem aG6 (u : Nat) : ∀ b ∈ Lib.decDigits u, 48 ≤ b.toNat ∧ b.toNat ≤ 57 := by
 induction u using Nat.strongRecOn with
 | _ u ih =>
  rw [Lib.decDigits]
  split
  ·rename_i h
   intro b hb
   rw [List.mem_singleton] at hb
   subst hb
   rw [aG7 h]
   omega
  ·rename_i h
   intro b hb
   rcases List.mem_append.1 hb with hb | hb
   ·exact ih _ (by omega) b hb
   ·rw [List.mem_singleton] at hb
    subst hb
    rw [aG7 (by omega)]
    omega
theorem aME (u : Nat) : Lib.decDigits u ≠ [] := by
 rw [Lib.decDigits]
 split <;> simp
theorem aBt : ∀ (k u : Nat), u < 10 ^ (k + 1) → (Lib.decDigits u).length ≤ k + 1
 | 0, u, h => by
  rw [Lib.decDigits, dif_pos (by simpa using h)]
  exact Nat.le_refl _
 | k + 1, u, h => by
  rw [Lib.decDigits]
  split
  ·simp
  ·rw [List.length_append]
   have := aBt k (u / 10) (by
    rw [Nat.pow_succ] at h
    omega)
   simp only [List.length_singleton]
   omega
theorem aTe {n : Int} (h : -9999999 ≤ n ∧ n ≤ 9999999) : (Lib.itoa n).length ≤ 8 := by
 unfold Lib.itoa
 split
 ·rw [List.length_cons]
  have := aBt 6 n.natAbs (by omega)
  omega
 ·have := aBt 6 n.toNat (by omega)
  omega
theorem aTf {n : Int} : ∀ b ∈ Lib.itoa n, b = 45 ∨ (48 ≤ b.toNat ∧ b.toNat ≤ 57) := by
 unfold Lib.itoa
 split
 ·intro b hb
  rcases List.mem_cons.1 hb with rfl | hb
  ·exact .inl rfl
  ·exact .inr (aG6 _ b hb)
 ·exact fun b hb => .inr (aG6 _ b hb)
theorem aKr {n : Int} {c : UInt8} (h : c.toNat < 45) : c ∉ Lib.itoa n := fun hb => by
 rcases aTf _ hb with rfl | q
 ·exact absurd h (by decide)
 ·omega
theorem aG5 (u : Nat) : ∃ b r, Lib.decDigits u = b :: r ∧ ¬ (b == 45) = true ∧ ¬ (b == 43) = true := by
 have hb := aG6 u
 cases hl : Lib.decDigits u with
 | nil => exact absurd hl (aME _)
 | cons b r =>
  rw [hl] at hb
  have h3 := hb b (List.mem_cons_self ..)
  refine ⟨b, r, rfl, fun e => ?_, fun e => ?_⟩
  ·have e : b = 45 := by simpa using e
   rw [e] at h3
   exact absurd h3.1 (by decide)
  ·have e : b = 43 := by simpa using e
   rw [e] at h3
   exact absurd h3.1 (by decide)
theorem aZ8 {n : Int} (h : -9999999 ≤ n ∧ n ≤ 9999999) : Lib.atoiAll (Lib.itoa n) = .ok n := by
 rw [Lib.atoiAll_short _ (Nat.le_trans (aTe h) (by decide))]
 unfold Lib.itoa
 split
 ·obtain ⟨b, r, e, _, _⟩ := aG5 n.natAbs
  have hd := aGd n.natAbs
  rw [Lib.atoi, if_pos (by decide)]
  rw [e] at hd ⊢
  unfold Lib.decNat
  rw [hd]
  have : -((n.natAbs : Nat) : Int) = n := by omega
  simp [Lib.NumEnd.ofOption, this]
 ·obtain ⟨b, r, e, wU, h43⟩ := aG5 n.toNat
  have hd := aGd n.toNat
  rw [e] at hd ⊢
  rw [Lib.atoi, if_neg wU, if_neg h43]
  unfold Lib.decNat
  rw [hd]
  have : ((n.toNat : Nat) : Int) = n := by omega
  simp [Lib.NumEnd.ofOption, this]
end Go.Proofs.YteffpgliiilnjaaGreatDoor
