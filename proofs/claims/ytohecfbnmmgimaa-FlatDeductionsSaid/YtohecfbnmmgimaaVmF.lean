/-
  The abstract operations are right: new blocks. Conditions: none; lemmas over any program.
-/
import Derived.Test.YtohecfbnmmgimaaVmE
namespace Go.Vm
open Go.RowKit
set_option linter.unusedVariables false

section
variable {U : Univ} {E : Enc U} {n : Nat} {N : Nat → Prop} {w0 w w' : World} {ρ ρ' : Nat → Option (Nat × Value)} {s : ASt U} {a : Act} {P : Program}

theorem RR.free (h : RR E n N w0 ρ s a w) {id : Nat} (hf : s.objs id = none) : ∀ g u, ρ id = some (g, u) → False := fun g u hr => by
  obtain ⟨ob, ho⟩ := h.dom _ _ _ hr
  rw [hf] at ho
  cases ho

/-- A new block of cells. -/
theorem RR.newCells (h : RR E n N w0 ρ s a w) {id : Nat} (hf : s.objs id = none) {l : List (AVal U)} {c : Array Value} (ty : TypeId) (hc : c.size = l.length)
    (hl : ∀ k (hk : k < l.length), Rel E w ρ (Stab N ρ w) l[k] (c.getD k undef)) :
    RR E n N w0 (rset ρ id 0 (.pointer (some ⟨w.heap.size, 0, none⟩))) (s.obj id (.cells l)) a (w.alloc (.cells c ty)) := by
  have hfree := h.free hf
  have hold : ∀ g u, ρ id = some (g, u) → (g = 0 ∧ u = .pointer (some ⟨w.heap.size, 0, none⟩)) ∨ ((∀ a, u ≠ .pointer a) ∧ g < 0) := fun g u hr => (hfree g u hr).elim
  have hbw : Below w0.heap.size w (w.alloc (.cells c ty)) := (Below.refl _ _).alloc h.below.size _
  have hsame : ∀ b, b < w.heap.size → (∀ g u, ρ id = some (g, u) → blk u ≠ some b) → (w.alloc (.cells c ty)).heap[b]? = w.heap[b]? := fun b hb _ => heap_alloc_old w _ hb
  have hnew : ∀ b, blk (.pointer (some ⟨w.heap.size, 0, none⟩)) = some b → (∃ g u, ρ id = some (g, u) ∧ blk u = some b) ∨ (w.heap.size ≤ b) := fun b hb => by
    simp only [blk, Option.some.injEq] at hb
    exact .inr (by omega)
  refine h.upd id 0 _ _ hold hbw hsame hnew ?_
  exact ⟨w.heap.size, c, ty, by simp [rset], h.below.size, heap_alloc_new w _, hc, fun k hk => h.upd_rel id 0 _ hold hbw hsame hnew (hl k hk)⟩

/-- A new row, or one that has grown: as the law on append leaves it. -/
theorem RR.newRow (h : RR E n N w0 ρ s a w) {id g' : Nat} {u' : Value} {t : U.τ} {xs : List (U.T t)} {cs : List Value}
    (hold : ∀ g u, ρ id = some (g, u) → (∀ a, u ≠ .pointer a) ∧ g < g') (hg : w.grownBy w' ((ρ id).bind fun p => blk p.2))
    (hown : w'.ownsRow w0.heap.size (U.ety t) (U.size t) u' xs.length cs)
    (hnew : ∀ b, blk u' = some b → (∃ g u, ρ id = some (g, u) ∧ blk u = some b) ∨ (w.heap.size ≤ b))
    (hl : ∀ i (hi : i < xs.length) k (hk : k < (E.enc t xs[i]).length), Rel E w ρ (Stab N ρ w) (E.enc t xs[i])[k] (cs.getD (i * U.size t + k) undef)) :
    RR E n N w0 (rset ρ id g' u') (s.obj id (.row t g' xs)) a w' := by
  have hold' : ∀ g u, ρ id = some (g, u) → (g = g' ∧ u = u') ∨ ((∀ a, u ≠ .pointer a) ∧ g < g') := fun g u hr => .inr (hold g u hr)
  have hbw : Below w0.heap.size w w' := (Below.refl _ _).grown hg h.below.size (fun k hk => by
    cases hr : ρ id with
    | none => rw [hr] at hk; cases hk
    | some p =>
      rw [hr] at hk
      exact ((h.own (g := p.1) (u := p.2) hr).2 k hk).1)
  have hsame : ∀ b, b < w.heap.size → (∀ g u, ρ id = some (g, u) → blk u ≠ some b) → w'.heap[b]? = w.heap[b]? := fun b hb hne => by
    refine hg.block b hb (fun e => ?_)
    cases hr : ρ id with
    | none => rw [hr] at e; cases e
    | some p =>
      rw [hr] at e
      exact hne p.1 p.2 hr e.symm
  have hpp : ∀ a, u' ≠ .pointer a := fun a e => by
    rcases hown.2 with ⟨h0, _⟩ | ⟨_, _, _, h0, _⟩ <;> rw [h0] at e <;> cases e
  refine h.upd id g' u' _ hold' hbw hsame hnew ?_
  exact ⟨u', cs, by simp [rset], hpp, hown, fun i hi k hk => h.upd_rel id g' u' hold' hbw hsame hnew (hl i hi k hk)⟩

theorem zeroCells_sound {t : TypeId} {l : List (AVal U)} (hz : zeroCells P t = some l) :
    ∃ z, (zeroValue t).run P w = .ok z w ∧ z.cells.size = l.length ∧ ∀ (st : Nat → Prop) k (hk : k < l.length), Rel E w ρ st l[k] (z.cells.getD k undef) := by
  unfold zeroCells at hz
  split at hz
  · rename_i i hi
    split at hz
    · rename_i z hzz
      obtain rfl := Option.some.inj hz
      refine ⟨z, by simp [zeroValue, typeInfo, hi, hzz], by simp, fun st k hk => ?_⟩
      have hk' : k < z.cells.size := by simpa using hk
      have e : z.cells.getD k undef = z.cells.toList[k]'(by simpa using hk') := by simp [hk']
      rw [e]
      simp only [List.getElem_map]
      exact rel_const _
    · cases hz
  · cases hz

theorem alloc_sound (h : RR E n N w0 ρ s a w) {id : Nat} (hf : s.objs id = none) {t : TypeId} {l : List (AVal U)} (hz : zeroCells P t = some l) :
    ∃ w' ρ', (Instr.alloc t true (.tuple #[])).run P w = .ok (.pointer (some ⟨w.heap.size, 0, none⟩)) w' ∧ RR E n N w0 ρ' (s.obj id (.cells l)) a w' ∧ ρ' id = some (0, .pointer (some ⟨w.heap.size, 0, none⟩)) := by
  obtain ⟨z, hrun, hsz, hl⟩ := zeroCells_sound (E := E) (w := w) (ρ := ρ) hz
  refine ⟨w.alloc (.cells z.cells t), _, ?_, h.newCells hf t hsz (hl _), by simp [rset]⟩
  simp [Instr.alloc, hrun, newVar, newRow]

theorem box_sound (h : RR E n N w0 ρ s a w) {look : Nat → Option (AObj U)} (hlook : ∀ id ob, look id = some ob → s.objs id = some ob) {id : Nat} (hf : s.objs id = none) (t : TypeId)
    {x : AVal U} {v : Value} (hx : Rel E w ρ (Stab N ρ w) x v) (hs : x.cellsOf.all (storable look) = true) :
    ∃ w' ρ', (Instr.box t v).run P w = .ok (.pointer (some ⟨w.heap.size, 0, none⟩)) w' ∧ RR E n N w0 ρ' (s.obj id (.cells x.cellsOf)) a w' ∧ ρ' id = some (0, .pointer (some ⟨w.heap.size, 0, none⟩)) := by
  obtain ⟨hsz, hrel, _⟩ := cellsOf_sound h hlook hx hs
  refine ⟨w.alloc (.cells v.cells t), _, ?_, h.newCells hf t hsz (fun k hk => by have := hrel k hk; rw [getD_toList] at this; exact this), by simp [rset]⟩
  simp [Instr.box, newVar, newRow]

/-- 'Instr.fill' and its abstract twin. -/
theorem foldl_set (vs : List Value) : ∀ (off : Nat) (cs : Array Value) (i : Nat), (vs.zipIdx i).foldl (fun cs (p : Value × Nat) => cs.setIfInBounds (off + p.2) p.1) cs = (vs.zipIdx (off + i)).foldl (fun cs (p : Value × Nat) => cs.setIfInBounds p.2 p.1) cs := by
  induction vs with
  | nil => intro off cs i; rfl
  | cons v vs ih =>
    intro off cs i
    simp only [List.zipIdx_cons, List.foldl_cons]
    rw [ih off _ (i + 1)]
    rfl

theorem foldl_set_eq (vs : List Value) : ∀ (off : Nat) (cs : Array Value), off + vs.length ≤ cs.size → (vs.zipIdx off).foldl (fun cs (p : Value × Nat) => cs.setIfInBounds p.2 p.1) cs = (cs.toList.take off ++ vs ++ cs.toList.drop (off + vs.length)).toArray := by
  induction vs with
  | nil =>
    intro off cs h
    simp
  | cons v vs ih =>
    intro off cs h
    simp only [List.length_cons] at h
    simp only [List.zipIdx_cons, List.foldl_cons]
    rw [ih (off + 1) _ (by simp; omega)]
    congr 1
    have hlt : off < cs.toList.length := by simp; omega
    simp only [Array.toList_setIfInBounds]
    have h1 : (cs.toList.set off v).take (off + 1) = cs.toList.take off ++ [v] := by
      rw [List.take_succ_eq_append_getElem (by simp; omega)]
      simp [List.take_set_of_le]
    have h2 : (cs.toList.set off v).drop (off + 1 + vs.length) = cs.toList.drop (off + (v :: vs).length) := by
      rw [List.drop_set_of_lt (by omega)]
      simp only [List.length_cons]
      congr 1
      omega
    rw [h1, h2]
    simp

theorem fill_sound {st : Nat → Prop} {look : Nat → Option (AObj U)} (hst : ∀ (x : AVal U) v, Rel E w ρ st x v → storable look x = true → v.oneCell' = true) {place place' : Nat → Option (Nat × Nat)} (hp : ∀ i q, place i = some q → place' i = some q) :
    ∀ (parts : List (Nat × AVal U)) (parts' : List (Nat × Value)) (l l' : List (AVal U)) (c : Array Value), parts.length = parts'.length →
      (∀ k (h : k < parts.length) (h' : k < parts'.length), parts[k].1 = parts'[k].1 ∧ Rel E w ρ st parts[k].2 parts'[k].2) →
      afill look place l parts = some l' → c.size = l.length → (∀ k (h : k < l.length), Rel E w ρ st l[k] (c.getD k undef)) →
      ∃ c', Instr.fill place' c parts' = some c' ∧ c'.size = l'.length ∧ ∀ k (h : k < l'.length), Rel E w ρ st l'[k] (c'.getD k undef) := by
  intro parts
  induction parts with
  | nil =>
    intro parts' l l' c hlen _ hf hc hl
    have : parts' = [] := List.eq_nil_of_length_eq_zero (by simpa using hlen.symm)
    subst this
    simp only [afill, Option.some.injEq] at hf
    subst hf
    exact ⟨c, rfl, hc, hl⟩
  | cons p parts ih =>
    intro parts' l l' c hlen hrel hf hc hl
    obtain ⟨i, x⟩ := p
    cases parts' with
    | nil => simp at hlen
    | cons p' parts' =>
      obtain ⟨i', v⟩ := p'
      obtain ⟨h1, h2⟩ := hrel 0 (by simp) (by simp)
      simp only [List.getElem_cons_zero] at h1 h2
      subst h1
      simp only [afill] at hf
      split at hf
      · cases hf
      · rename_i off size hpl
        have hcnd : (x.cellsOf.all (storable look) && Nat.beq x.cellsOf.length size && Nat.ble (off + x.cellsOf.length) l.length) = true := by
          cases hcnd : (x.cellsOf.all (storable look) && Nat.beq x.cellsOf.length size && Nat.ble (off + x.cellsOf.length) l.length) <;> rw [hcnd] at hf <;> simp_all
        rw [hcnd] at hf
        simp only [cond_true] at hf
        simp only [Bool.and_eq_true] at hcnd
        obtain ⟨⟨hc1, hc2⟩, hc3⟩ := hcnd
        have hsz := Nat.eq_of_beq_eq_true hc2
        have hle := Nat.le_of_ble_eq_true hc3
        -- the value's cells
        have hv : v.cells.size = x.cellsOf.length ∧ ∀ k (hk : k < x.cellsOf.length), Rel E w ρ st x.cellsOf[k] (v.cells.toList.getD k undef) := by
          by_cases hag : ∃ l, x = .agg l
          · obtain ⟨la, rfl⟩ := hag
            cases h2 with
            | agg _ vs hn hla =>
              refine ⟨hn, fun k hk => ?_⟩
              show Rel E w ρ st la[k] (vs.toList.getD k undef)
              rw [getD_toList]
              exact hla k hk
          · have hcc : x.cellsOf = [x] := by
              cases x <;> first | rfl | exact absurd ⟨_, rfl⟩ hag
            have hcell : storable look x = true := by rw [hcc] at hc1; simpa using hc1
            have hvone : v.oneCell' = true := hst x v h2 hcell
            rw [hcc, cells_one hvone]
            refine ⟨rfl, fun k hk => ?_⟩
            have : k = 0 := by simpa using hk
            subst this
            simpa using h2
        have hcs : ∀ k (h : k < (setCells l off x.cellsOf).length), Rel E w ρ st (setCells l off x.cellsOf)[k] ((c.toList.take off ++ v.cells.toList ++ c.toList.drop (off + v.cells.toList.length)).getD k undef) :=
          setCells_rel x.cellsOf v.cells.toList l off c.toList (by simp [hv.1]) hle (by simpa using hc) hv.2 (fun k hk => by rw [getD_toList]; exact hl k hk)
        have hvl : v.cells.toList.length = x.cellsOf.length := by simpa using hv.1
        obtain ⟨c', hc', hsz', hrel'⟩ := ih parts' (setCells l off x.cellsOf) l' (c.toList.take off ++ v.cells.toList ++ c.toList.drop (off + v.cells.toList.length)).toArray (by simpa using hlen)
          (fun k h h' => hrel (k + 1) (by simp; omega) (by simp; omega)) hf
          (by simp only [List.size_toArray, List.length_append, List.length_take, List.length_drop, Array.length_toList, setCells_length]; omega) (fun k hk => by simpa using hcs k hk)
        refine ⟨c', ?_, hsz', hrel'⟩
        simp only [Instr.fill, hp _ _ hpl]
        have h3 : ¬ (v.cells.size ≠ size ∨ off + v.cells.size > c.size) := by omega
        have h4 : (decide (v.cells.size ≠ size) || decide (off + v.cells.size > c.size)) = false := by simpa using h3
        rw [if_neg (by simpa using h3)]
        have e : v.cells.zipIdx.foldl (fun cs (p : Value × Nat) => cs.setIfInBounds (off + p.2) p.1) c = (c.toList.take off ++ v.cells.toList ++ c.toList.drop (off + v.cells.toList.length)).toArray := by
          rw [← Array.foldl_toList, Array.toList_zipIdx, foldl_set, Nat.add_zero, foldl_set_eq _ _ _ (by omega)]
        rw [← hc', ← e]
end
end Go.Vm
