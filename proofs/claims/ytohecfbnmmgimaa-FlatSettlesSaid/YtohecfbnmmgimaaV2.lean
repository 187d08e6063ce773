/-
  An interpreter of the model's code over abstract values, and that it is right: part 2. Conditions: none; lemmas over any program.
-/
import Derived.Test.YtohecfbnmmgimaaV1
namespace Go.Vm
open Go.RowKit
set_option linter.unusedVariables false

section
variable {U : Univ} {E : Enc U} {n : Nat} {N : Nat → Prop} {w0 w w' : World} {ρ ρ' : Nat → Option (Nat × Value)} {s : ASt U} {a : Act} {P : Program}

theorem RR.free (h : RR E n N w0 ρ s a w) {id : Nat} (hf : s.objs id = none) : ∀ g u, ρ id = some (g, u) → False := fun g u hr => by
  obtain ⟨ob, ho⟩ := h.dom _ _ _ hr
  rw [hf] at ho
  cases ho

/-- A new block of cells. -/
theorem RR.newCells (h : RR E n N w0 ρ s a w) {id : Nat} (hf : s.objs id = none) {l : List (AVal U)} {c : Array Value} (ty : TypeId) (hc : c.size = l.length)
    (hl : ∀ k (hk : k < l.length), Rel E w ρ (Stab N ρ w) l[k] (c.getD k undef)) :
    RR E n N w0 (rset ρ id 0 (.pointer (some ⟨w.heap.size, 0, none⟩))) (s.obj id (.cells l)) a (w.alloc (.cells c ty)) := by
  have hfree := h.free hf
  have hold : ∀ g u, ρ id = some (g, u) → (g = 0 ∧ u = .pointer (some ⟨w.heap.size, 0, none⟩)) ∨ ((∀ a, u ≠ .pointer a) ∧ g < 0) := fun g u hr => (hfree g u hr).elim
  have hbw : Below w0.heap.size w (w.alloc (.cells c ty)) := (Below.refl _ _).alloc h.below.size _
  have hsame : ∀ b, b < w.heap.size → (∀ g u, ρ id = some (g, u) → blk u ≠ some b) → (w.alloc (.cells c ty)).heap[b]? = w.heap[b]? := fun b hb _ => heap_alloc_old w _ hb
  have hnew : ∀ b, blk (.pointer (some ⟨w.heap.size, 0, none⟩)) = some b → (∃ g u, ρ id = some (g, u) ∧ blk u = some b) ∨ (w.heap.size ≤ b) := fun b hb => by
    simp only [blk, Option.some.injEq] at hb
    exact .inr (by omega)
  refine h.upd id 0 _ _ hold hbw hsame hnew ?_
  exact ⟨w.heap.size, c, ty, by simp [rset], h.below.size, heap_alloc_new w _, hc, fun k hk => h.upd_rel id 0 _ hold hbw hsame hnew (hl k hk)⟩

/-- A new row, or one that has grown: as the law on append leaves it. -/
theorem RR.newRow (h : RR E n N w0 ρ s a w) {id g' : Nat} {u' : Value} {t : U.τ} {xs : List (U.T t)} {cs : List Value}
    (hold : ∀ g u, ρ id = some (g, u) → (∀ a, u ≠ .pointer a) ∧ g < g') (hg : w.grownBy w' ((ρ id).bind fun p => blk p.2))
    (hown : w'.ownsRow w0.heap.size (U.ety t) (U.size t) u' xs.length cs)
    (hnew : ∀ b, blk u' = some b → (∃ g u, ρ id = some (g, u) ∧ blk u = some b) ∨ (w.heap.size ≤ b))
    (hl : ∀ i (hi : i < xs.length) k (hk : k < (E.enc t xs[i]).length), Rel E w ρ (Stab N ρ w) (E.enc t xs[i])[k] (cs.getD (i * U.size t + k) undef)) :
    RR E n N w0 (rset ρ id g' u') (s.obj id (.row t g' xs)) a w' := by
  have hold' : ∀ g u, ρ id = some (g, u) → (g = g' ∧ u = u') ∨ ((∀ a, u ≠ .pointer a) ∧ g < g') := fun g u hr => .inr (hold g u hr)
  have hbw : Below w0.heap.size w w' := (Below.refl _ _).grown hg h.below.size (fun k hk => by
    cases hr : ρ id with
    | none => rw [hr] at hk; cases hk
    | some p =>
      rw [hr] at hk
      exact ((h.own (g := p.1) (u := p.2) hr).2 k hk).1)
  have hsame : ∀ b, b < w.heap.size → (∀ g u, ρ id = some (g, u) → blk u ≠ some b) → w'.heap[b]? = w.heap[b]? := fun b hb hne => by
    refine hg.block b hb (fun e => ?_)
    cases hr : ρ id with
    | none => rw [hr] at e; cases e
    | some p =>
      rw [hr] at e
      exact hne p.1 p.2 hr e.symm
  have hpp : ∀ a, u' ≠ .pointer a := fun a e => by
    rcases hown.2 with ⟨h0, _⟩ | ⟨_, _, _, h0, _⟩ <;> rw [h0] at e <;> cases e
  refine h.upd id g' u' _ hold' hbw hsame hnew ?_
  exact ⟨u', cs, by simp [rset], hpp, hown, fun i hi k hk => h.upd_rel id g' u' hold' hbw hsame hnew (hl i hi k hk)⟩

theorem zeroCells_sound {t : TypeId} {l : List (AVal U)} (hz : zeroCells P t = some l) :
    ∃ z, (zeroValue t).run P w = .ok z w ∧ z.cells.size = l.length ∧ ∀ (st : Nat → Prop) k (hk : k < l.length), Rel E w ρ st l[k] (z.cells.getD k undef) := by
  unfold zeroCells at hz
  split at hz
  · rename_i i hi
    split at hz
    · rename_i z hzz
      obtain rfl := Option.some.inj hz
      refine ⟨z, by simp [zeroValue, typeInfo, hi, hzz], by simp, fun st k hk => ?_⟩
      have hk' : k < z.cells.size := by simpa using hk
      have e : z.cells.getD k undef = z.cells.toList[k]'(by simpa using hk') := by simp [hk']
      rw [e]
      simp only [List.getElem_map]
      exact rel_const _
    · cases hz
  · cases hz

theorem alloc_sound (h : RR E n N w0 ρ s a w) {id : Nat} (hf : s.objs id = none) {t : TypeId} {l : List (AVal U)} (hz : zeroCells P t = some l) :
    ∃ w' ρ', (Instr.alloc t true (.tuple #[])).run P w = .ok (.pointer (some ⟨w.heap.size, 0, none⟩)) w' ∧ RR E n N w0 ρ' (s.obj id (.cells l)) a w' ∧ ρ' id = some (0, .pointer (some ⟨w.heap.size, 0, none⟩)) := by
  obtain ⟨z, hrun, hsz, hl⟩ := zeroCells_sound (E := E) (w := w) (ρ := ρ) hz
  refine ⟨w.alloc (.cells z.cells t), _, ?_, h.newCells hf t hsz (hl _), by simp [rset]⟩
  simp [Instr.alloc, hrun, newVar, newRow]

theorem box_sound (h : RR E n N w0 ρ s a w) {look : Nat → Option (AObj U)} (hlook : ∀ id ob, look id = some ob → s.objs id = some ob) {id : Nat} (hf : s.objs id = none) (t : TypeId)
    {x : AVal U} {v : Value} (hx : Rel E w ρ (Stab N ρ w) x v) (hs : x.cellsOf.all (storable look) = true) :
    ∃ w' ρ', (Instr.box t v).run P w = .ok (.pointer (some ⟨w.heap.size, 0, none⟩)) w' ∧ RR E n N w0 ρ' (s.obj id (.cells x.cellsOf)) a w' ∧ ρ' id = some (0, .pointer (some ⟨w.heap.size, 0, none⟩)) := by
  obtain ⟨hsz, hrel, _⟩ := cellsOf_sound h hlook hx hs
  refine ⟨w.alloc (.cells v.cells t), _, ?_, h.newCells hf t hsz (fun k hk => by have := hrel k hk; rw [getD_toList] at this; exact this), by simp [rset]⟩
  simp [Instr.box, newVar, newRow]

/-- 'Instr.fill' and its abstract twin. -/
theorem foldl_set (vs : List Value) : ∀ (off : Nat) (cs : Array Value) (i : Nat), (vs.zipIdx i).foldl (fun cs (p : Value × Nat) => cs.setIfInBounds (off + p.2) p.1) cs = (vs.zipIdx (off + i)).foldl (fun cs (p : Value × Nat) => cs.setIfInBounds p.2 p.1) cs := by
  induction vs with
  | nil => intro off cs i; rfl
  | cons v vs ih =>
    intro off cs i
    simp only [List.zipIdx_cons, List.foldl_cons]
    rw [ih off _ (i + 1)]
    rfl

theorem foldl_set_eq (vs : List Value) : ∀ (off : Nat) (cs : Array Value), off + vs.length ≤ cs.size → (vs.zipIdx off).foldl (fun cs (p : Value × Nat) => cs.setIfInBounds p.2 p.1) cs = (cs.toList.take off ++ vs ++ cs.toList.drop (off + vs.length)).toArray := by
  induction vs with
  | nil =>
    intro off cs h
    simp
  | cons v vs ih =>
    intro off cs h
    simp only [List.length_cons] at h
    simp only [List.zipIdx_cons, List.foldl_cons]
    rw [ih (off + 1) _ (by simp; omega)]
    congr 1
    have hlt : off < cs.toList.length := by simp; omega
    simp only [Array.toList_setIfInBounds]
    have h1 : (cs.toList.set off v).take (off + 1) = cs.toList.take off ++ [v] := by
      rw [List.take_succ_eq_append_getElem (by simp; omega)]
      simp [List.take_set_of_le]
    have h2 : (cs.toList.set off v).drop (off + 1 + vs.length) = cs.toList.drop (off + (v :: vs).length) := by
      rw [List.drop_set_of_lt (by omega)]
      simp only [List.length_cons]
      congr 1
      omega
    rw [h1, h2]
    simp

theorem fill_sound {st : Nat → Prop} {look : Nat → Option (AObj U)} (hst : ∀ (x : AVal U) v, Rel E w ρ st x v → storable look x = true → v.oneCell' = true) {place place' : Nat → Option (Nat × Nat)} (hp : ∀ i q, place i = some q → place' i = some q) :
    ∀ (parts : List (Nat × AVal U)) (parts' : List (Nat × Value)) (l l' : List (AVal U)) (c : Array Value), parts.length = parts'.length →
      (∀ k (h : k < parts.length) (h' : k < parts'.length), parts[k].1 = parts'[k].1 ∧ Rel E w ρ st parts[k].2 parts'[k].2) →
      afill look place l parts = some l' → c.size = l.length → (∀ k (h : k < l.length), Rel E w ρ st l[k] (c.getD k undef)) →
      ∃ c', Instr.fill place' c parts' = some c' ∧ c'.size = l'.length ∧ ∀ k (h : k < l'.length), Rel E w ρ st l'[k] (c'.getD k undef) := by
  intro parts
  induction parts with
  | nil =>
    intro parts' l l' c hlen _ hf hc hl
    have : parts' = [] := List.eq_nil_of_length_eq_zero (by simpa using hlen.symm)
    subst this
    simp only [afill, Option.some.injEq] at hf
    subst hf
    exact ⟨c, rfl, hc, hl⟩
  | cons p parts ih =>
    intro parts' l l' c hlen hrel hf hc hl
    obtain ⟨i, x⟩ := p
    cases parts' with
    | nil => simp at hlen
    | cons p' parts' =>
      obtain ⟨i', v⟩ := p'
      obtain ⟨h1, h2⟩ := hrel 0 (by simp) (by simp)
      simp only [List.getElem_cons_zero] at h1 h2
      subst h1
      simp only [afill] at hf
      split at hf
      · cases hf
      · rename_i off size hpl
        have hcnd : (x.cellsOf.all (storable look) && Nat.beq x.cellsOf.length size && Nat.ble (off + x.cellsOf.length) l.length) = true := by
          cases hcnd : (x.cellsOf.all (storable look) && Nat.beq x.cellsOf.length size && Nat.ble (off + x.cellsOf.length) l.length) <;> rw [hcnd] at hf <;> simp_all
        rw [hcnd] at hf
        simp only [cond_true] at hf
        simp only [Bool.and_eq_true] at hcnd
        obtain ⟨⟨hc1, hc2⟩, hc3⟩ := hcnd
        have hsz := Nat.eq_of_beq_eq_true hc2
        have hle := Nat.le_of_ble_eq_true hc3
        -- the value's cells
        have hv : v.cells.size = x.cellsOf.length ∧ ∀ k (hk : k < x.cellsOf.length), Rel E w ρ st x.cellsOf[k] (v.cells.toList.getD k undef) := by
          by_cases hag : ∃ l, x = .agg l
          · obtain ⟨la, rfl⟩ := hag
            cases h2 with
            | agg _ vs hn hla =>
              refine ⟨hn, fun k hk => ?_⟩
              show Rel E w ρ st la[k] (vs.toList.getD k undef)
              rw [getD_toList]
              exact hla k hk
          · have hcc : x.cellsOf = [x] := by
              cases x <;> first | rfl | exact absurd ⟨_, rfl⟩ hag
            have hcell : storable look x = true := by rw [hcc] at hc1; simpa using hc1
            have hvone : v.oneCell' = true := hst x v h2 hcell
            rw [hcc, cells_one hvone]
            refine ⟨rfl, fun k hk => ?_⟩
            have : k = 0 := by simpa using hk
            subst this
            simpa using h2
        have hcs : ∀ k (h : k < (setCells l off x.cellsOf).length), Rel E w ρ st (setCells l off x.cellsOf)[k] ((c.toList.take off ++ v.cells.toList ++ c.toList.drop (off + v.cells.toList.length)).getD k undef) :=
          setCells_rel x.cellsOf v.cells.toList l off c.toList (by simp [hv.1]) hle (by simpa using hc) hv.2 (fun k hk => by rw [getD_toList]; exact hl k hk)
        have hvl : v.cells.toList.length = x.cellsOf.length := by simpa using hv.1
        obtain ⟨c', hc', hsz', hrel'⟩ := ih parts' (setCells l off x.cellsOf) l' (c.toList.take off ++ v.cells.toList ++ c.toList.drop (off + v.cells.toList.length)).toArray (by simpa using hlen)
          (fun k h h' => hrel (k + 1) (by simp; omega) (by simp; omega)) hf
          (by simp only [List.size_toArray, List.length_append, List.length_take, List.length_drop, Array.length_toList, setCells_length]; omega) (fun k hk => by simpa using hcs k hk)
        refine ⟨c', ?_, hsz', hrel'⟩
        simp only [Instr.fill, hp _ _ hpl]
        have h3 : ¬ (v.cells.size ≠ size ∨ off + v.cells.size > c.size) := by omega
        have h4 : (decide (v.cells.size ≠ size) || decide (off + v.cells.size > c.size)) = false := by simpa using h3
        rw [if_neg (by simpa using h3)]
        have e : v.cells.zipIdx.foldl (fun cs (p : Value × Nat) => cs.setIfInBounds (off + p.2) p.1) c = (c.toList.take off ++ v.cells.toList ++ c.toList.drop (off + v.cells.toList.length)).toArray := by
          rw [← Array.foldl_toList, Array.toList_zipIdx, foldl_set, Nat.add_zero, foldl_set_eq _ _ _ (by omega)]
        rw [← hc', ← e]
end
end Go.Vm

namespace Go.Vm
open Go.RowKit
set_option linter.unusedVariables false

section
variable {U : Univ} {n : Nat} {N : Nat → Prop} {w0 w w' : World} {ρ ρ' : Nat → Option (Nat × Value)} {s : ASt U} {a : Act}

theorem sliceElt_spec {C : Cfg U} {t : TypeId} {τ : U.τ} (h : sliceElt C t = some τ) :
    C.P.underlying t = some (.slice (U.ety τ)) ∧ ∃ i, C.P.info? (U.ety τ) = some i ∧ i.size = U.size τ := by
  unfold sliceElt at h
  split at h
  · rename_i e he
    split at h
    · rename_i m τ' hm hτ
      have hc : (Nat.beq m (U.size τ') && Nat.beq e (U.ety τ')) = true := by
        cases hc : (Nat.beq m (U.size τ') && Nat.beq e (U.ety τ')) <;> rw [hc] at h <;> simp_all
      rw [hc] at h
      simp only [cond_true, Option.some.injEq] at h
      subst h
      simp only [Bool.and_eq_true] at hc
      obtain rfl := Nat.eq_of_beq_eq_true hc.1
      obtain rfl := Nat.eq_of_beq_eq_true hc.2
      exact ⟨he, sizeT_spec hm⟩
    · cases h
  · cases h

theorem castRow_spec {t t2 : U.τ} {xs : List (U.T t2)} {ys : List (U.T t)} (h : castRow t t2 xs = some ys) : ∃ e : t2 = t, e ▸ xs = ys := by
  unfold castRow at h
  split at h
  · rename_i e _
    exact ⟨e, Option.some.inj h⟩
  · cases h

/-- What a slice's elements are in memory. -/
def Elems (E : Enc U) (w : World) (ρ : Nat → Option (Nat × Value)) (st : Nat → Prop) (t : U.τ) (xs : List (U.T t)) (v : Value) : Prop :=
  (v = .slice none 0 0 ∧ xs = []) ∨ ∃ (b o cap : Nat) (f : Nat → Value), v = .slice (some ⟨b, o, none⟩) xs.length cap ∧ xs.length ≤ cap ∧
    (∀ j, j < xs.length * U.size t → w.cell? ⟨b, o + j, none⟩ = some (f j)) ∧
    ∀ i (h : i < xs.length) k (hk : k < (E.enc t xs[i]).length), Rel E w ρ st (E.enc t xs[i])[k] (f (i * U.size t + k))

theorem RR.rowElems {E : Enc U} (h : RR E n N w0 ρ s a w) {id : Nat} {t : U.τ} {g : Nat} {xs : List (U.T t)} (ho : s.objs id = some (.row t g xs)) :
    ∃ u cs, ρ id = some (g, u) ∧ (∀ a, u ≠ .pointer a) ∧ w.ownsRow w0.heap.size (U.ety t) (U.size t) u xs.length cs ∧ Elems E w ρ (Stab N ρ w) t xs u ∧
      ∀ i (h : i < xs.length) k (hk : k < (E.enc t xs[i]).length), Rel E w ρ (Stab N ρ w) (E.enc t xs[i])[k] (cs.getD (i * U.size t + k) undef) := by
  obtain ⟨u, cs, h1, hp, h2, h3⟩ := h.objs _ _ ho
  refine ⟨u, cs, h1, hp, h2, ?_, h3⟩
  rcases h2.2 with ⟨h0, hn⟩ | ⟨gb, cap, cur, heq, hbase, hgb, hn, hcm, hcs, htake⟩
  · exact .inl ⟨h0, List.eq_nil_of_length_eq_zero hn⟩
  · refine .inr ⟨gb, 0, cap, fun j => cs.getD j undef, heq, hn, fun j hj => ?_, h3⟩
    rw [Nat.zero_add, cell_of_row w gb j cur _ (0, 0) hgb]
    have h6 : cs[j]? = cur[j]? := by
      rw [← htake, List.getElem?_take, if_pos hj]
      simp
    have : j < cs.length := by rw [h2.1]; exact hj
    rw [← h6]
    simp [this]

theorem rowOf_sound {E : Enc U} (h : RR E n N w0 ρ s a w) {look : Nat → Option (AObj U)} (hlook : ∀ id ob, look id = some ob → s.objs id = some ob) {t : U.τ}
    {x : AVal U} {v : Value} (hx : Rel E w ρ (Stab N ρ w) x v) {ys : List (U.T t)} (hr : rowOf look t x = some ys) : Elems E w ρ (Stab N ρ w) t ys v := by
  unfold rowOf at hr
  split at hr
  · split at hr
    · rename_i id g _ t2 g' zs hl
      have hc : Nat.beq g g' = true := by cases hc : Nat.beq g g' <;> rw [hc] at hr <;> simp_all
      rw [hc] at hr
      simp only [cond_true] at hr
      obtain rfl := Nat.eq_of_beq_eq_true hc
      obtain ⟨rfl, rfl⟩ := castRow_spec hr
      obtain ⟨u, cs, h1, hp, h2, h3, _⟩ := h.rowElems (hlook _ _ hl)
      cases hx with
      | osl _ _ u' hr' hp' =>
        rw [h1] at hr'
        simp only [Option.some.injEq, Prod.mk.injEq, true_and] at hr'
        subst hr'
        exact h3
      | oslOld _ _ g' u' v hr' hg =>
        rw [h1] at hr'
        simp only [Option.some.injEq, Prod.mk.injEq] at hr'
        omega
    · cases hr
  · rename_i t2 zs
    obtain ⟨rfl, rfl⟩ := castRow_spec hr
    cases hx with
    | sl0 _ => exact .inl ⟨rfl, rfl⟩
    | sl _ _ b o cap f hb hcap hc hl => exact .inr ⟨b, o, cap, f, rfl, hcap, hc, hl⟩
  · obtain rfl := Option.some.inj hr
    cases hx
    exact .inl ⟨rfl, rfl⟩
  · cases hr

theorem ownsRow_grownBy_refl (w : World) (row : Option Nat) : w.grownBy w row := ⟨rfl, rfl, rfl, Nat.le_refl _, fun _ _ _ => rfl⟩

theorem ownBlock_blk {u : Value} (h : ∀ a, u ≠ .pointer a) : u.ownBlock = blk u := by
  cases u <;> first | rfl | skip
  · exact absurd rfl (h _)
  · rename_i o _ _
    cases o <;> rfl

/-- Elements put behind an own slice's (or nil's). -/
theorem append_core {C : Cfg U} (h : RR C.E n N w0 ρ s a w) {t ty : TypeId} {τ : U.τ} (hτ : sliceElt C t = some τ) {i : TypeInfo} (hi : C.P.info? (U.ety τ) = some i) {z : Value} (hz : i.zero = some z)
    (hzs : z.cells.size = U.size τ) (hby : 1 ≤ i.bytes) {id : Nat} {u y : Value} {xs ys : List (U.T τ)} {cs : List Value}
    (hown : w.ownsRow w0.heap.size (U.ety τ) (U.size τ) u xs.length cs) (hpu : ∀ a, u ≠ .pointer a)
    (hxs : ∀ i (h : i < xs.length) k (hk : k < (C.E.enc τ xs[i]).length), Rel C.E w ρ (Stab N ρ w) (C.E.enc τ xs[i])[k] (cs.getD (i * U.size τ + k) undef))
    (hy : Elems C.E w ρ (Stab N ρ w) τ ys y) (hbytes : (xs.length + ys.length) * i.bytes ≤ 140737488355328) (g' : Nat)
    (hid : (∃ g, ρ id = some (g, u) ∧ g < g') ∨ (ρ id = none ∧ u = .slice none 0 0)) :
    ∃ v' w', (Builtin.append_ #[t, t] ty #[u, y]).run C.P w = .ok v' w' ∧ RR C.E n N w0 (rset ρ id g' v') (s.obj id (.row τ g' (xs ++ ys))) a w' ∧ ∀ p, v' ≠ .pointer p := by
  obtain ⟨hu, i', hi', his⟩ := sliceElt_spec hτ
  rw [hi] at hi'
  obtain rfl := Option.some.inj hi'
  have hold : ∀ g u', ρ id = some (g, u') → (∀ a, u' ≠ .pointer a) ∧ g < g' := fun g u' hr => by
    rcases hid with ⟨g0, h0, hg⟩ | ⟨h0, _⟩
    · rw [hr] at h0
      simp only [Option.some.injEq, Prod.mk.injEq] at h0
      obtain ⟨rfl, rfl⟩ := h0
      exact ⟨hpu, hg⟩
    · rw [h0] at hr; cases hr
  have hbind : ∀ b, u.ownBlock = some b → ((ρ id).bind fun p => blk p.2) = some b := fun b hb => by
    rcases hid with ⟨g0, h0, hg⟩ | ⟨h0, rfl⟩
    · rw [h0, ← hb, ownBlock_blk hpu]; rfl
    · cases hb
  have hgr : ∀ w', w.grownBy w' u.ownBlock → w.grownBy w' ((ρ id).bind fun p => blk p.2) := fun w' hg => by
    refine ⟨hg.os, hg.tape, hg.output, hg.size, fun k hk hne => hg.block k hk (fun e => ?_)⟩
    exact hne (hbind k e.symm).symm
  have hle : xs.length + ys.length ≤ maxLen := by
    have : (xs.length + ys.length) * 1 ≤ (xs.length + ys.length) * i.bytes := Nat.mul_le_mul_left _ hby
    unfold maxLen
    omega
  have hsz := C.E.pos τ
  rcases hy with ⟨rfl, rfl⟩ | ⟨b, o, cap, f, rfl, hcap, hc, hl⟩
  · -- nothing to append
    refine ⟨u, w, ?_, ?_, hpu⟩
    · rcases hown.2 with ⟨rfl, _⟩ | ⟨gb, cap, cur, rfl, hbase, hgb, hn, _⟩
      · simp [Builtin.append_, run_underlying hu, sizeOf, typeInfo, hi, Builtin.lenOf, Builtin.firstCells]
      · simp [Builtin.append_, run_underlying hu, sizeOf, typeInfo, hi, Builtin.lenOf, Builtin.firstCells, hn, storeCells]
    · refine h.newRow hold (ownsRow_grownBy_refl _ _) (by simpa using hown) (fun b hb => ?_) (by simpa using hxs)
      rcases hid with ⟨g0, h0, hg⟩ | ⟨h0, rfl⟩
      · exact .inl ⟨_, _, h0, hb⟩
      · cases hb
  · have hnl : ((List.range (ys.length * U.size τ)).map f).length = ys.length * U.size τ := by simp
    have hone : ∀ x ∈ (List.range (ys.length * U.size τ)).map f, x.oneCell' = true := fun x hx => by
      obtain ⟨j, hj, rfl⟩ := List.mem_map.1 hx
      have hj' : j < ys.length * U.size τ := by simpa using hj
      have hq : j / U.size τ < ys.length := Nat.div_lt_of_lt_mul (by rw [Nat.mul_comm]; exact hj')
      have hm : j % U.size τ < (C.E.enc τ ys[j / U.size τ]).length := by rw [C.E.enc_len]; exact Nat.mod_lt _ hsz
      have := hl (j / U.size τ) hq (j % U.size τ) hm
      have e : j / U.size τ * U.size τ + j % U.size τ = j := by rw [Nat.mul_comm]; exact Nat.div_add_mod _ _
      rw [e] at this
      obtain ⟨hfl, hcell⟩ := C.E.enc_flat τ _ _ (List.getElem_mem hm)
      refine this.oneCell hcell (fun _ _ _ hr => (h.own hr).1) (fun id g he => ?_) (fun id g i off sz he => ?_)
      · rw [he] at hfl; cases hfl
      · rw [he] at hfl; cases hfl
    have hnews : ∀ j x, ((List.range (ys.length * U.size τ)).map f)[j]? = some x → w.cell? ((⟨b, o, none⟩ : Addr).add j) = some x := fun j x hx => by
      have hj : j < ys.length * U.size τ := by
        have := (List.getElem?_eq_some_iff.1 hx).1
        simpa using this
      rw [Addr.add_at, hc j hj]
      have := (List.getElem?_eq_some_iff.1 hx).2
      simp at this
      rw [this]
    obtain ⟨v', w', hrun, hown', hgrow, hnil⟩ := run_append_own (P := C.P) w w0.heap.size t ty (U.ety τ) i z (U.size τ) i.bytes hu hi hz his rfl hzs hsz u xs.length cs hown
      ⟨b, o, none⟩ ys.length cap ((List.range (ys.length * U.size τ)).map f) hnl hnews hone hle hbytes h.below.size
    have hpv : ∀ p, v' ≠ .pointer p := fun p e => by
      rcases hown'.2 with ⟨h0, _⟩ | ⟨_, _, _, h0, _⟩ <;> rw [h0] at e <;> cases e
    refine ⟨v', w', hrun, ?_, hpv⟩
    have hlen : (xs ++ ys).length = xs.length + ys.length := by simp
    refine h.newRow hold (hgr w' hgrow) (by rw [hlen]; exact hown') (fun b' hb' => ?_) (fun j hj k hk => ?_)
    · -- the new value's block is the old one, or new
      rcases hid with ⟨g0, h0, hg⟩ | ⟨h0, rfl⟩
      · rcases hown.2 with ⟨rfl, hx0⟩ | ⟨gb, cap', cur, rfl, hbase, hgb, hn, hcm, hcs, htake⟩
        · refine .inr ?_
          have hx1 : xs = [] := List.eq_nil_of_length_eq_zero hx0
          subst hx1
          obtain ⟨v2, w2, hrun2, hown2, _⟩ := run_append_own (P := C.P) w w.heap.size t ty (U.ety τ) i z (U.size τ) i.bytes hu hi hz his rfl hzs hsz (.slice none 0 0) 0 [] (World.ownsRow_nil _ _ _ _)
            ⟨b, o, none⟩ ys.length cap ((List.range (ys.length * U.size τ)).map f) hnl hnews hone (by simpa using hle) (by simpa using hbytes) (Nat.le_refl _)
          rw [hrun2] at hrun
          simp only [Result.ok.injEq] at hrun
          obtain ⟨rfl, rfl⟩ := hrun
          exact (hown2.lt b' (by rw [ownBlock_blk hpv]; exact hb')).1
        · by_cases hroom : xs.length + ys.length ≤ cap'
          · have hr := run_append_room (P := C.P) w t ty (U.ety τ) i hu hi gb xs.length cap' cur hgb ⟨b, o, none⟩ ys.length cap ((List.range (ys.length * U.size τ)).map f) (by rw [hnl, his]) hnews hone hroom (by
              rw [hnl, hcs, his, ← Nat.add_mul]; exact Nat.mul_le_mul_right _ hroom)
            rw [hr] at hrun
            simp only [Result.ok.injEq] at hrun
            obtain ⟨rfl, _⟩ := hrun
            exact .inl ⟨_, _, h0, hb'⟩
          · have hr := run_append_grow (P := C.P) w t ty (U.ety τ) i z hu hi hz ⟨gb, 0, none⟩ xs.length cap' cs (by rw [hown.1, his]) (hown.cells (g := gb) rfl) ⟨b, o, none⟩ ys.length cap
              ((List.range (ys.length * U.size τ)).map f) (by rw [hnl, his]) hnews (by omega) (by unfold maxLen at hle; omega) (growslice_fits (by omega) hbytes)
            rw [hr] at hrun
            simp only [Result.ok.injEq] at hrun
            obtain ⟨rfl, _⟩ := hrun
            simp only [blk, Option.some.injEq] at hb'
            exact .inr (by omega)
      · refine .inr ?_
        have hx0 : xs.length = 0 := by
          rcases hown.2 with ⟨_, h⟩ | ⟨_, _, _, h, _⟩
          · exact h
          · cases h
        have hx1 : xs = [] := List.eq_nil_of_length_eq_zero hx0
        subst hx1
        obtain ⟨v2, w2, hrun2, hown2, _⟩ := run_append_own (P := C.P) w w.heap.size t ty (U.ety τ) i z (U.size τ) i.bytes hu hi hz his rfl hzs hsz (.slice none 0 0) 0 [] (World.ownsRow_nil _ _ _ _)
          ⟨b, o, none⟩ ys.length cap ((List.range (ys.length * U.size τ)).map f) hnl hnews hone (by simpa using hle) (by simpa using hbytes) (Nat.le_refl _)
        rw [hrun2] at hrun
        simp only [Result.ok.injEq] at hrun
        obtain ⟨rfl, rfl⟩ := hrun
        exact (hown2.lt b' (by rw [ownBlock_blk hpv]; exact hb')).1
    · have hk' : k < U.size τ := by rw [C.E.enc_len] at hk; exact hk
      by_cases hjx : j < xs.length
      · have e : (xs ++ ys)[j] = xs[j] := List.getElem_append_left hjx
        have hin : j * U.size τ + k < cs.length := by
          rw [hown.1]
          have : (j + 1) * U.size τ ≤ xs.length * U.size τ := Nat.mul_le_mul_right _ hjx
          rw [Nat.add_mul, Nat.one_mul] at this
          omega
        have := hxs j hjx k (by rw [e] at hk; exact hk)
        simp only [e]
        simpa [List.getElem?_append, hin] using this
      · have hj2 : j - xs.length < ys.length := by rw [hlen] at hj; omega
        have e : (xs ++ ys)[j] = ys[j - xs.length] := List.getElem_append_right (by omega)
        have := hl (j - xs.length) hj2 k (by rw [e] at hk; exact hk)
        simp only [e]
        have hjm : j * U.size τ = xs.length * U.size τ + (j - xs.length) * U.size τ := by
          rw [← Nat.add_mul]
          congr 1
          omega
        have h4 : (j - xs.length + 1) * U.size τ ≤ ys.length * U.size τ := Nat.mul_le_mul_right _ hj2
        rw [Nat.add_mul, Nat.one_mul] at h4
        have e2 : (cs ++ (List.range (ys.length * U.size τ)).map f).getD (j * U.size τ + k) undef = f ((j - xs.length) * U.size τ + k) := by
          have h5 : ¬ j * U.size τ + k < cs.length := by rw [hown.1]; omega
          have h6 : j * U.size τ + k - cs.length = (j - xs.length) * U.size τ + k := by rw [hown.1]; omega
          have h7 : (j - xs.length) * U.size τ + k < ys.length * U.size τ := by omega
          simp [List.getElem?_append, h5, h6, h7]
        rw [e2]
        exact this
end
end Go.Vm

namespace Go.Vm
open Go.RowKit
set_option linter.unusedVariables false

def conj : List Prop → Prop
  | [] => True
  | [p] => p
  | p :: q :: r => p ∧ conj (q :: r)

theorem conj_cons (p : Prop) (l : List Prop) : conj (p :: l) ↔ p ∧ conj l := by
  cases l with
  | nil => simp [conj]
  | cons q r => rfl

theorem conj_iff (l : List Prop) : conj l ↔ ∀ p ∈ l, p := by
  induction l with
  | nil => exact ⟨fun _ p hp => absurd hp List.not_mem_nil, fun _ => trivial⟩
  | cons p l ih => rw [conj_cons, List.forall_mem_cons, ih]

section
variable {U : Univ} {n : Nat} {N : Nat → Prop} {w0 w w' : World} {ρ ρ' : Nat → Option (Nat × Value)} {s : ASt U} {a : Act}

theorem cond_some {α : Type} {b : Bool} {x : Option α} {y : α} (h : cond b x none = some y) : b = true ∧ x = some y := by
  cases b
  · cases h
  · exact ⟨rfl, h⟩

theorem aappend_sound {C : Cfg U} (h : RR C.E n N w0 ρ s a w) {look : Nat → Option (AObj U)} (hlook : ∀ id ob, look id = some ob → s.objs id = some ob) {d : Nat} (hf : look d = none → s.objs d = none)
    {argTypes : Array TypeId} {ty : TypeId} {x y : AVal U} {u v : Value} (hx : Rel C.E w ρ (Stab N ρ w) x u) (hy : Rel C.E w ρ (Stab N ρ w) y v)
    {cs : List Prop} {r : AVal U} {ob : Option (Nat × AObj U)} (ho : aappend C look d argTypes x y = some (cs, r, ob)) (hc : conj cs) :
    ∃ v' w' ρ', (Builtin.append_ argTypes ty #[u, v]).run C.P w = .ok v' w' ∧ RR C.E n N w0 ρ' (s.putObj ob) a w' ∧ Rel C.E w' ρ' (Stab N ρ' w') r v' := by
  unfold aappend at ho
  split at ho
  · rename_i t t' hat
    have hbo := cond_some ho
    clear ho
    obtain ⟨hb, ho⟩ := hbo
    obtain rfl := Nat.eq_of_beq_eq_true hb
    have hargs : argTypes = #[t, t] := by rw [← Array.toArray_toList (xs := argTypes), hat]
    subst hargs
    split at ho
    · rename_i τ hτ
      split at ho
      · rename_i i hi
        split at ho
        · rename_i z hz
          have hbo2 := cond_some ho
          clear ho
          obtain ⟨hb2, ho⟩ := hbo2
          simp only [Bool.and_eq_true] at hb2
          have hzs := Nat.eq_of_beq_eq_true hb2.1
          have hby := Nat.le_of_ble_eq_true hb2.2
          split at ho
          · rename_i ys hys
            have hel := rowOf_sound h hlook hy hys
            split at ho
            · split at ho
              · rename_i hfree
                simp only [Option.some.injEq, Prod.mk.injEq] at ho
                obtain ⟨rfl, rfl, rfl⟩ := ho
                cases hx
                have hbytes : ys.length * i.bytes ≤ 140737488355328 := hc
                have hnone : ρ d = none := by
                  have hfr := h.free (hf hfree)
                  generalize ρ d = q at hfr
                  cases q with
                  | none => rfl
                  | some p => exact (hfr p.1 p.2 rfl).elim
                obtain ⟨v', w', hrun, hR, hp⟩ := append_core (ty := ty) h hτ hi hz hzs hby (id := d) (xs := []) (cs := []) (World.ownsRow_nil _ _ _ _) (fun a e => by cases e) (fun i hi => absurd hi (by simp)) hel
                  (by simpa using hbytes) 0 (.inr ⟨hnone, rfl⟩)
                exact ⟨v', w', _, hrun, by simpa [ASt.putObj] using hR, .osl d 0 v' (by simp [rset]) hp⟩
              · cases ho
            · rename_i id g
              split at ho
              · rename_i xs hxs
                simp only [Option.some.injEq, Prod.mk.injEq] at ho
                obtain ⟨rfl, rfl, rfl⟩ := ho
                have hbytes : (xs.length + ys.length) * i.bytes ≤ 140737488355328 := hc
                unfold rowOf at hxs
                simp only at hxs
                split at hxs
                · rename_i t2 g' zs hl
                  have hbx := cond_some hxs
                  clear hxs
                  obtain ⟨hbb, hxs⟩ := hbx
                  obtain rfl := Nat.eq_of_beq_eq_true hbb
                  obtain ⟨rfl, rfl⟩ := castRow_spec hxs
                  obtain ⟨u1, cs1, h1, hp1, h2, h3, h4⟩ := h.rowElems (hlook _ _ hl)
                  have hu : u1 = u := by
                    cases hx with
                    | osl _ _ u' hr' hp' =>
                      rw [h1] at hr'
                      simp only [Option.some.injEq, Prod.mk.injEq, true_and] at hr'
                      exact hr'
                    | oslOld _ _ g' u' v hr' hg =>
                      rw [h1] at hr'
                      simp only [Option.some.injEq, Prod.mk.injEq] at hr'
                      omega
                  subst hu
                  obtain ⟨v', w', hrun, hR, hp⟩ := append_core (ty := ty) h hτ hi hz hzs hby (id := id) h2 hp1 h4 hel hbytes (g + 1) (.inl ⟨g, h1, by omega⟩)
                  exact ⟨v', w', _, hrun, by simpa [ASt.putObj] using hR, .osl id (g + 1) v' (by simp [rset]) hp⟩
                · cases hxs
              · cases ho
            · cases ho
          · cases ho
        · cases ho
      · cases ho
    · cases ho
  · cases ho

theorem decRows_sound {E : Enc U} {st : Nat → Prop} {t : U.τ} : ∀ (m : Nat) (l : List (AVal U)) (xs : List (U.T t)) (f : Nat → Value), decRows E t m l = some xs →
    (∀ k (h : k < l.length), Rel E w ρ st l[k] (f k)) → xs.length = m ∧ m * U.size t ≤ l.length ∧ ∀ i (h : i < xs.length) k (hk : k < (E.enc t xs[i]).length), Rel E w ρ st (E.enc t xs[i])[k] (f (i * U.size t + k)) := by
  intro m
  induction m with
  | zero =>
    intro l xs f hd _
    simp only [decRows, Option.some.injEq] at hd
    subst hd
    exact ⟨rfl, by simp, fun i h => absurd h (by simp)⟩
  | succ m ih =>
    intro l xs f hd hl
    simp only [decRows] at hd
    split at hd
    · rename_i x xs' hx hxs
      obtain rfl := Option.some.inj hd
      have hlen := E.dec_len t _ _ hx
      have hle : U.size t ≤ l.length := by
        simp only [List.length_take] at hlen
        omega
      obtain ⟨h1, h2, h3⟩ := ih _ _ (fun k => f (U.size t + k)) hxs (fun k h => by
        have h' : U.size t + k < l.length := by simp at h; omega
        have := hl (U.size t + k) h'
        simpa using this)
      refine ⟨by simp [h1], ?_, fun i h k hk => ?_⟩
      · simp only [List.length_drop] at h2
        rw [Nat.add_mul, Nat.one_mul]
        omega
      · cases i with
        | zero =>
          simp only [List.getElem_cons_zero, Nat.zero_mul, Nat.zero_add]
          exact rel_dec hx (f := f) (fun k h => by
            have h' : k < l.length := by simp at h; omega
            have := hl k h'
            simpa using this) k (by simpa using hk)
        | succ i =>
          have := h3 i (by simpa using h) k (by simpa using hk)
          simp only [List.getElem_cons_succ]
          have e : (i + 1) * U.size t + k = U.size t + (i * U.size t + k) := by rw [Nat.add_mul, Nat.one_mul]; omega
          rw [e]
          exact this
    · cases hd

theorem replicate_flatten_get (z : List (AVal U)) : ∀ (m k : Nat), k < m * z.length → ((List.replicate m z).flatten)[k]? = z[k % z.length]? := by
  intro m
  induction m with
  | zero => intro k h; simp at h
  | succ m ih =>
    intro k h
    simp only [List.replicate_succ, List.flatten_cons, List.getElem?_append]
    by_cases hk : k < z.length
    · rw [if_pos hk, Nat.mod_eq_of_lt hk]
    · rw [if_neg hk, ih (k - z.length) (by rw [Nat.add_mul, Nat.one_mul] at h; omega)]
      congr 1
      exact (Nat.mod_eq_sub_mod (by omega)).symm

theorem buildSlice_sound {C : Cfg U} (h : RR C.E n N w0 ρ s a w) {look : Nat → Option (AObj U)} (hlook : ∀ id ob, look id = some ob → s.objs id = some ob) {d : Nat} (hf : s.objs d = none)
    {t : TypeId} {τ : U.τ} (hτ : sliceElt C t = some τ) {z : List (AVal U)} (hz : zeroCells C.P (U.ety τ) = some z) {len : Nat} (hzl : z.length = U.size τ) (hlen : len * U.size τ ≤ 16777216)
    {parts : List (Nat × AVal U)} {parts' : Array (Nat × Value)} (hpl : parts.length = parts'.size)
    (hp : ∀ k (h : k < parts.length) (h' : k < parts'.toList.length), parts[k].1 = parts'.toList[k].1 ∧ Rel C.E w ρ (Stab N ρ w) parts[k].2 parts'.toList[k].2)
    {l : List (AVal U)} (hl : afill look (fun i => some (i * U.size τ, U.size τ)) ((List.replicate len z).flatten) parts = some l) {xs : List (U.T τ)} (hxs : decRows C.E τ len l = some xs) :
    ∃ v' w' ρ', (Instr.buildSlice t len parts').run C.P w = .ok v' w' ∧ RR C.E n N w0 ρ' (s.obj d (.row τ 0 xs)) a w' ∧ Rel C.E w' ρ' (Stab N ρ' w') (.osl d 0) v' := by
  obtain ⟨hu, i, hi, his⟩ := sliceElt_spec hτ
  obtain ⟨zv, hzr, hzsz, hzrel⟩ := zeroCells_sound (E := C.E) (w := w) (ρ := ρ) hz
  have hpos := C.E.pos τ
  -- the zero row
  have hbase : ∃ base : Array Value, base.size = ((List.replicate len z).flatten).length ∧ (∀ k (h : k < ((List.replicate len z).flatten).length), Rel C.E w ρ (Stab N ρ w) ((List.replicate len z).flatten)[k] (base.getD k undef)) ∧
      base = (Array.range (len * U.size τ)).map (fun k => zv.cells[k % zv.cells.size]!) := by
    refine ⟨_, by simp [hzl], fun k hk => ?_, rfl⟩
    have hk' : k < len * z.length := by simpa using hk
    have hkm : k % z.length < z.length := Nat.mod_lt _ (by omega)
    have e1 : ((List.replicate len z).flatten)[k] = z[k % z.length] := by
      have := replicate_flatten_get z len k hk'
      rw [List.getElem?_eq_getElem hk, List.getElem?_eq_getElem hkm] at this
      exact Option.some.inj this
    have e2 : ((Array.range (len * U.size τ)).map (fun k => zv.cells[k % zv.cells.size]!)).getD k undef = zv.cells.getD (k % z.length) undef := by
      have h1 : k < len * U.size τ := by rw [← hzl]; exact hk'
      have h2 : k % z.length < zv.cells.size := by omega
      have h3 : zv.cells[k % z.length]! = zv.cells[k % z.length]'h2 := getElem!_pos zv.cells _ h2
      have h4 : zv.cells[k % z.length]? = some zv.cells[k % z.length] := Array.getElem?_eq_getElem h2
      simp [h1, hzsz, h3, h4]
    rw [e1, e2]
    exact hzrel _ _ hkm
  obtain ⟨base, hbs, hbr, hbe⟩ := hbase
  obtain ⟨c', hfill, hc's, hc'r⟩ := fill_sound (look := look) (place' := fun i => some (i * U.size τ, U.size τ)) (fun x v hx hs => storable_sound h hlook hx hs) (fun i q hq => hq) parts parts'.toList _ l base (by simpa using hpl) hp hl hbs hbr
  obtain ⟨hxl, hle, hxr⟩ := decRows_sound len l xs (fun k => c'.getD k undef) hxs hc'r
  have hll : l.length = len * U.size τ := by
    have : ∀ (ps : List (Nat × AVal U)) (l0 l1 : List (AVal U)), afill look (fun i => some (i * U.size τ, U.size τ)) l0 ps = some l1 → l1.length = l0.length := by
      intro ps
      induction ps with
      | nil => intro l0 l1 h; simp only [afill, Option.some.injEq] at h; rw [h]
      | cons p ps ih =>
        intro l0 l1 h
        obtain ⟨i, x⟩ := p
        simp only [afill] at h
        obtain ⟨_, h⟩ := cond_some h
        rw [ih _ _ h, setCells_length]
    rw [this _ _ _ hl]
    simp [hzl]
  refine ⟨.slice (some ⟨w.heap.size, 0, none⟩) len len, w.alloc (.cells c' (U.ety τ)), rset ρ d 0 (.slice (some ⟨w.heap.size, 0, none⟩) len len), ?_, ?_, .osl d 0 _ (by simp [rset]) (fun a e => by cases e)⟩
  · have h24 : ¬ len * i.size > 2 ^ 24 := by rw [his]; simp; omega
    rw [his] at h24
    by_cases h0 : len * U.size τ = 0
    · have hrow : (Array.range (len * U.size τ)).map (fun k => (#[] : Array Value)[k % (#[] : Array Value).size]!) = base := by
        rw [hbe, h0]
        simp
      simp only [Instr.buildSlice, Sem.run_bind, run_underlying hu, Result.andThen_ok, sizeOf, typeInfo, run_program, hi, Sem.run_pure, his, if_neg h24, if_pos h0, hrow, hfill, newRow, run_newObj]
      rfl
    · rw [hbe] at hfill
      simp only [Instr.buildSlice, Sem.run_bind, run_underlying hu, Result.andThen_ok, sizeOf, typeInfo, run_program, hi, Sem.run_pure, his, if_neg h24, if_neg h0, hzr, hfill, newRow, run_newObj]
      rfl
  · refine h.newRow (fun g u hr => (h.free hf g u hr).elim) (World.grownBy_alloc w _ _) ⟨?_, .inr ⟨w.heap.size, len, c', by rw [hxl], h.below.size, heap_alloc_new w _, by omega, ?_, by rw [hc's, hll], ?_⟩⟩ (fun b hb => ?_) (fun i hi k hk => ?_) (cs := c'.toList)
    · simp [hc's, hll, hxl]
    · unfold maxLen
      have : len * 1 ≤ len * U.size τ := Nat.mul_le_mul_left _ hpos
      omega
    · rw [hxl]
      exact List.take_of_length_le (by simp; omega)
    · simp only [blk, Option.some.injEq] at hb
      exact .inr (by omega)
    · have := hxr i hi k hk
      simpa using this
end
end Go.Vm

namespace Go.Vm
open Go.RowKit
set_option linter.unusedVariables false

section
variable {U : Univ} {n : Nat} {N : Nat → Prop} {w0 w w' : World} {ρ ρ' : Nat → Option (Nat × Value)} {s : ASt U} {a : Act}

def noOwn : Nat → Option (Nat × Value) := fun _ => none
def Out' (N : Nat → Prop) (w : World) (b : Nat) : Prop := b < w.heap.size ∧ ¬ N b

def RelArgs (E : Enc U) (w : World) (N : Nat → Prop) (xs : List (AVal U)) (args : Array Value) : Prop :=
  args.size = xs.length ∧ ∀ k (h : k < xs.length), Rel E w noOwn (Out' N w) xs[k] (args.getD k undef)

/-- A result as a small state of its own: its new slices are own rows of it. -/
def Fresh (E : Enc U) (base : Nat) (N : Nat → Prop) (w : World) (r : AVal U) (v : Value) : Prop :=
  ∃ ρ : Nat → Option (Nat × Value), Rel E w ρ (Stab N ρ w) (r.ownAs (fun k => k)) v ∧
    (∀ k t xs, r.news[k]? = some ⟨t, xs⟩ → RelObj E w ρ (Stab N ρ w) base k (.row t 0 xs)) ∧
    (∀ k g u, ρ k = some (g, u) → k < r.news.length) ∧
    ∀ id id' g g' u u' b, ρ id = some (g, u) → ρ id' = some (g', u') → id ≠ id' → blk u = some b → blk u' ≠ some b

/-- The summaries are right, in every world of the invariant. -/
def SumOK (C : Cfg U) : Prop := ∀ f m, C.sum f = some m → (∀ (args : Array Value) (w : World), (callFunc f args).run C.P w = .ok (.enter f args) w) ∧
  ∀ (N : Nat → Prop) (w : World) (args : Array Value) (xs : List (AVal U)) (cs : List Prop) (r : AVal U), C.inv w → (∀ b, N b → b < w.heap.size) → RelArgs C.E w N xs args → m xs = some (cs, r) → conj cs →
    Calls C.P f args w fun e w' => ∃ v, e = .returned v ∧ Fresh C.E w.heap.size N w' r v ∧ Below w.heap.size w w'

/-- The summaries are right in the worlds that come behind a world. -/
def SumAt (C : Cfg U) (w0 : World) : Prop := ∀ f m, C.sum f = some m → (∀ (args : Array Value) (w : World), (callFunc f args).run C.P w = .ok (.enter f args) w) ∧
  ∀ (N : Nat → Prop) (w : World) (args : Array Value) (xs : List (AVal U)) (cs : List Prop) (r : AVal U), Below w0.heap.size w0 w → (∀ b, N b → b < w.heap.size) → RelArgs C.E w N xs args → m xs = some (cs, r) → conj cs →
    Calls C.P f args w fun e w' => ∃ v, e = .returned v ∧ Fresh C.E w.heap.size N w' r v ∧ Below w.heap.size w w'

theorem SumOK.at {C : Cfg U} (h : SumOK C) {w0 : World} (hi : C.inv w0) : SumAt C w0 := fun f m hm => ⟨(h f m hm).1, fun N w args xs cs r hb => (h f m hm).2 N w args xs cs r (C.invOK w0 w hi hb)⟩

theorem Rel.pure {E : Enc U} {st st' : Nat → Prop} {x : AVal U} {v : Value} (hx : x.pure = true) (h : Rel E w ρ st x v) : Rel E w' ρ' st' x v := by
  cases h with
  | raw v => exact .raw v
  | int k n => exact .int k n
  | bool b => exact .bool b
  | str s => exact .str s
  | nils => exact .nils
  | _ => simp [AVal.pure] at hx

/-! ### Leaves -/
theorem lm1_len (g : Nat → AVal U → AVal U) : ∀ (l : List (AVal U)) (k : Nat), (lm1 g k l).length = l.length := by
  intro l
  induction l with
  | nil => intro k; rfl
  | cons c l ih => intro k; simp [lm1, ih]
theorem lm1_get (g : Nat → AVal U → AVal U) : ∀ (l : List (AVal U)) (k i : Nat) (h : i < (lm1 g k l).length) (h' : i < l.length), (lm1 g k l)[i] = g (k + ((l.take i).flatMap news1).length) l[i] := by
  intro l
  induction l with
  | nil => intro k i h h'; exact absurd h' (by simp)
  | cons c l ih =>
    intro k i h h'
    cases i with
    | zero => simp [lm1]
    | succ i =>
      simp only [lm1, List.getElem_cons_succ, List.take_succ_cons, List.flatMap_cons, List.length_append]
      rw [ih (k + (news1 c).length) i (by simpa [lm1] using h) (by simpa using h'), Nat.add_assoc]
theorem lm3_len (g : Nat → AVal U → AVal U) : ∀ (l : List (AVal U)) (k : Nat), (lm3 g k l).length = l.length := by
  intro l
  induction l with
  | nil => intro k; rfl
  | cons c l ih => intro k; simp [lm3, ih]
theorem lm3_get (g : Nat → AVal U → AVal U) : ∀ (l : List (AVal U)) (k i : Nat) (h : i < (lm3 g k l).length) (h' : i < l.length), (lm3 g k l)[i] = lm2 g (k + ((l.take i).flatMap news2).length) l[i] := by
  intro l
  induction l with
  | nil => intro k i h h'; exact absurd h' (by simp)
  | cons c l ih =>
    intro k i h h'
    cases i with
    | zero => simp [lm3]
    | succ i =>
      simp only [lm3, List.getElem_cons_succ, List.take_succ_cons, List.flatMap_cons, List.length_append]
      rw [ih (k + (news2 c).length) i (by simpa [lm3] using h) (by simpa using h'), Nat.add_assoc]
theorem flat_at {α β : Type} (f : α → List β) (l : List α) (i : Nat) (h : i < l.length) (j : Nat) (y : β) (hy : (f l[i])[j]? = some y) : (l.flatMap f)[((l.take i).flatMap f).length + j]? = some y := by
  have e : l = l.take i ++ (l[i] :: l.drop (i + 1)) := by rw [← List.drop_eq_getElem_cons h, List.take_append_drop]
  have e2 : l.flatMap f = (l.take i).flatMap f ++ (f l[i] ++ (l.drop (i + 1)).flatMap f) := by
    exact (congrArg (List.flatMap f) e).trans (by rw [List.flatMap_append, List.flatMap_cons])
  rw [e2, List.getElem?_append_right (by omega), Nat.add_sub_cancel_left]
  have hj : j < (f l[i]).length := (List.getElem?_eq_some_iff.1 hy).1
  rw [List.getElem?_append_left hj]
  exact hy

/-- Of every leaf. -/
def LeafAll (p : AVal U → Prop) : AVal U → Prop
  | .tup l => ∀ c ∈ l, (match c with | .agg m => ∀ d ∈ m, p d | d => p d)
  | .agg m => ∀ d ∈ m, p d
  | d => p d

/-- From leaf to leaf: a result's leaves turned in another way. -/
theorem leafMap_rel {E : Enc U} {ρ ρ' : Nat → Option (Nat × Value)} {st st' : Nat → Prop} {g g' : Nat → AVal U → AVal U} {p : AVal U → Prop} {r : AVal U} {v : Value}
    (hp2 : LeafAll p r)
    (hg : ∀ k c u, p c → (∀ t xs, c = .new t xs → r.news[k]? = some ⟨t, xs⟩) → Rel E w ρ st (g k c) u → Rel E w' ρ' st' (g' k c) u) (h : Rel E w ρ st (leafMap g r) v) : Rel E w' ρ' st' (leafMap g' r) v := by
  have agg : ∀ (k : Nat) (m : List (AVal U)) (v : Value), (∀ d ∈ m, p d) → (∀ j y, (m.flatMap news1)[j]? = some y → r.news[k + j]? = some y) → Rel E w ρ st (.agg (lm1 g k m)) v → Rel E w' ρ' st' (.agg (lm1 g' k m)) v := by
    intro k m v hpm hn h
    cases h with
    | agg _ vs hsz hl =>
      refine .agg _ vs (by rw [hsz, lm1_len, lm1_len]) (fun i hi => ?_)
      have hi' : i < m.length := by rw [lm1_len] at hi; exact hi
      have h1 := hl i (by rw [lm1_len]; exact hi')
      rw [lm1_get g m k i (by rw [lm1_len]; exact hi') hi'] at h1
      rw [lm1_get g' m k i hi hi']
      refine hg _ _ _ (hpm _ (List.getElem_mem hi')) (fun t xs hc => ?_) h1
      refine hn _ _ ?_
      have := flat_at news1 m i hi' 0 ⟨t, xs⟩ (by rw [hc]; rfl)
      rw [Nat.add_zero] at this
      exact this
  cases r with
  | tup l =>
    cases h with
    | tup _ vs hsz hl =>
      refine .tup _ vs (by rw [hsz, lm3_len, lm3_len]) (fun i hi => ?_)
      have hi' : i < l.length := by rw [lm3_len] at hi; exact hi
      have h1 := hl i (by rw [lm3_len]; exact hi')
      rw [lm3_get g l 0 i (by rw [lm3_len]; exact hi') hi', Nat.zero_add] at h1
      rw [lm3_get g' l 0 i hi hi', Nat.zero_add]
      have hpi := hp2 _ (List.getElem_mem hi')
      have hn : ∀ j y, (news2 l[i])[j]? = some y → (AVal.tup l).news[((l.take i).flatMap news2).length + j]? = some y := fun j y hy => flat_at news2 l i hi' j y hy
      generalize l[i] = c at h1 hpi hn ⊢
      cases c with
      | agg m => exact agg _ m _ hpi (fun j y hy => hn j y hy) h1
      | _ =>
        refine hg _ _ _ hpi (fun t xs hc => ?_) h1
        have := hn 0 ⟨t, xs⟩ (by rw [hc]; rfl)
        rwa [Nat.add_zero] at this
  | agg m =>
    exact agg 0 m v hp2 (fun j y hy => by rw [Nat.zero_add]; exact hy) h
  | _ =>
    refine hg 0 _ v hp2 (fun t xs hc => ?_) h
    rw [hc]
    rfl

/-! ### By content -/
theorem stays_rel {E : Enc U} {st : Nat → Prop} : ∀ (d : Nat) (x : AVal U) (v : Value), stays d x = true → Rel E w ρ st x v → Rel E w ρ' st x v := by
  intro d
  induction d with
  | zero =>
    intro x v hs h
    cases x <;> first | exact h.flat rfl | (simp [stays] at hs)
  | succ d ih =>
    intro x v hs h
    cases x with
    | ref l off =>
      simp only [stays, List.all_eq_true] at hs
      cases h with
      | ref _ _ b o f hb hc hl => exact .ref l off b o f hb hc (fun k hk => ih _ _ (hs _ (List.getElem_mem hk)) (hl k hk))
    | fn f l =>
      simp only [stays, List.all_eq_true] at hs
      cases h with
      | fn _ _ vs hn hl => exact .fn f l vs hn (fun k hk => ih _ _ (hs _ (List.getElem_mem hk)) (hl k hk))
    | _ => first | exact h.flat rfl | (simp [stays] at hs)

theorem allC_spec {f : AVal U → Option (AVal U × Bool)} : ∀ (l ys : List (AVal U)) (b : Bool), allC f l = some (ys, b) → ys.length = l.length ∧ ∀ i (h : i < l.length) (h' : i < ys.length), ∃ bi, f l[i] = some (ys[i], bi) ∧ (b = false → bi = false) := by
  intro l
  induction l with
  | nil =>
    intro ys b h
    cases h
    exact ⟨rfl, fun i h => absurd h (by simp)⟩
  | cons v l ih =>
    intro ys b h
    simp only [allC] at h
    split at h
    · rename_i x bx xs bs hx hxs
      cases h
      obtain ⟨h1, h2⟩ := ih _ _ hxs
      refine ⟨by simp [h1], fun i hi hi' => ?_⟩
      cases i with
      | zero => exact ⟨bx, hx, fun hb => by simp only [Bool.or_eq_false_iff] at hb; exact hb.1⟩
      | succ i =>
        obtain ⟨bi, h3, h4⟩ := h2 i (by simpa using hi) (by simpa using hi')
        exact ⟨bi, h3, fun hb => by simp only [Bool.or_eq_false_iff] at hb; exact h4 hb.2⟩
    · cases h

theorem zipC_spec {f : TypeId → AVal U → Option (AVal U × Bool)} : ∀ (ts : List TypeId) (l ys : List (AVal U)) (b : Bool), zipC f ts l = some (ys, b) → ys.length = l.length ∧ ∀ i (h : i < l.length) (h' : i < ys.length), ∃ t bi, f t l[i] = some (ys[i], bi) ∧ (b = false → bi = false) := by
  intro ts
  induction ts with
  | nil =>
    intro l ys b h
    cases l with
    | nil =>
      cases h
      exact ⟨rfl, fun i h => absurd h (by simp)⟩
    | cons _ _ => cases h
  | cons t ts ih =>
    intro l ys b h
    cases l with
    | nil => cases h
    | cons v l =>
      simp only [zipC] at h
      split at h
      · rename_i x bx xs bs hx hxs
        cases h
        obtain ⟨h1, h2⟩ := ih _ _ _ hxs
        refine ⟨by simp [h1], fun i hi hi' => ?_⟩
        cases i with
        | zero => exact ⟨t, bx, hx, fun hb => by simp only [Bool.or_eq_false_iff] at hb; exact hb.1⟩
        | succ i =>
          obtain ⟨t', bi, h3, h4⟩ := h2 i (by simpa using hi) (by simpa using hi')
          exact ⟨t', bi, h3, fun hb => by simp only [Bool.or_eq_false_iff] at hb; exact h4 hb.2⟩
      · cases h

theorem byC_sound {C : Cfg U} (h : RR C.E n N w0 ρ s a w) {look : Nat → Option (AObj U)} (hlook : ∀ id ob, look id = some ob → s.objs id = some ob) : ∀ (d : Nat) (ty : TypeId)
    (x y : AVal U) (own : Bool) (v : Value), Rel C.E w ρ (Stab N ρ w) x v → byC C look d ty x = some (y, own) →
    Rel C.E w noOwn (Out' N w) y v ∧ (own = false → Rel C.E w noOwn (Stab N ρ w) y v) := by
  have weak : ∀ {y : AVal U} {v : Value}, Rel C.E w noOwn (Stab N ρ w) y v → Rel C.E w noOwn (Out' N w) y v := fun h => h.mono (fun b hb => ⟨⟨hb.1, hb.2.1⟩, rfl⟩) (fun _ _ _ hr => by cases hr)
  have hownb : ∀ {id g : Nat} {u : Value} {b : Nat}, ρ id = some (g, u) → blk u = some b → Out' N w b := fun hu hb => ⟨((h.own hu).2 _ hb).2, fun hn => by
    have h1 := ((h.own hu).2 _ hb).1
    have h2 := h.nlt _ hn
    omega⟩
  intro d
  induction d with
  | zero => intro ty x y own v hx hb; cases hb
  | succ d ih =>
    intro ty x y own v hx hb
    simp only [byC] at hb
    split at hb
    · split at hb
      · rename_i id g _ t g' xs hl
        obtain ⟨hb1, hb2⟩ := cond_some hb
        clear hb
        simp only [Option.some.injEq, Prod.mk.injEq] at hb2
        obtain ⟨rfl, rfl⟩ := hb2
        obtain rfl := Nat.eq_of_beq_eq_true hb1
        refine ⟨?_, fun e => by cases e⟩
        obtain ⟨u, cs, h1, hp, h2, h3, _⟩ := h.rowElems (hlook _ _ hl)
        have hu : u = v := by
          cases hx with
          | osl _ _ u' hr' hp' =>
            rw [h1] at hr'
            simp only [Option.some.injEq, Prod.mk.injEq, true_and] at hr'
            exact hr'
          | oslOld _ _ g' u' v hr' hg =>
            rw [h1] at hr'
            simp only [Option.some.injEq, Prod.mk.injEq] at hr'
            omega
        subst hu
        rcases h3 with ⟨rfl, rfl⟩ | ⟨b, o, cap, f, rfl, hcap, hc, hl'⟩
        · exact .sl0 t
        · refine .sl t xs b o cap f ?_ hcap hc (fun i hi k hk => ?_)
          · exact hownb h1 rfl
          · have := hl' i hi k hk
            exact (this.flat (ρ' := noOwn) (C.E.enc_flat t _ _ (List.getElem_mem hk)).1).mono (fun b hb => ⟨⟨hb.1, hb.2.1⟩, rfl⟩) (fun _ _ _ hr => by cases hr)
      · cases hb
    · split at hb
      · simp only [Option.some.injEq, Prod.mk.injEq] at hb
        obtain ⟨rfl, rfl⟩ := hb
        cases hx
        exact ⟨.sl0 _, fun _ => .sl0 _⟩
      · cases hb
    · split at hb
      · rename_i id off _ l hl
        split at hb
        · rename_i ys bs hys
          cases hb
          obtain ⟨e1, e2⟩ := allC_spec _ _ _ hys
          refine ⟨?_, fun e => by cases e⟩
          obtain ⟨b, c, ty', h1, h2, h3, h4, h5⟩ := h.objs _ _ (hlook _ _ hl)
          cases hx with
          | ptr _ _ b' hb' =>
            rw [h1] at hb'
            simp only [Option.some.injEq, Prod.mk.injEq, true_and, Value.pointer.injEq, Addr.mk.injEq, and_true] at hb'
            subst hb'
            have := Rel.ref (E := C.E) (w := w) (ρ := noOwn) (st := Out' N w) ys off b 0 (fun k => c.getD k undef) (hownb h1 rfl) (fun k hk => by
              rw [Nat.zero_add, cell_of_row w b k c ty' (0, 0) h3]
              have : k < c.size := by omega
              simp [this]) (fun k hk => by
                have hk' : k < l.length := by omega
                obtain ⟨bi, q1, _⟩ := e2 k hk' hk
                exact (ih _ _ _ _ _ (h5 k hk') q1).1)
            simpa using this
        · cases hb
      · cases hb
    · split at hb
      · rename_i f l _ ys bs hys
        cases hb
        obtain ⟨e1, e2⟩ := allC_spec _ _ _ hys
        cases hx with
        | fn _ _ vs hn hl =>
          refine ⟨.fn f ys vs (by rw [hn, e1]) (fun k hk => ?_), fun ho => .fn f ys vs (by rw [hn, e1]) (fun k hk => ?_)⟩
          · obtain ⟨bi, q1, _⟩ := e2 k (by omega) hk
            exact (ih _ _ _ _ _ (hl k (by omega)) q1).1
          · obtain ⟨bi, q1, q2⟩ := e2 k (by omega) hk
            exact (ih _ _ _ _ _ (hl k (by omega)) q1).2 (q2 ho)
      · cases hb
    · rename_i l
      split at hb
      · rename_i hb1
        simp only [Option.some.injEq, Prod.mk.injEq] at hb
        obtain ⟨rfl, rfl⟩ := hb
        have : Rel C.E w noOwn (Stab N ρ w) (.agg l) v := by
          cases hx with
          | agg _ vs hn hl =>
            refine .agg l vs hn (fun k hk => ?_)
            have h1 := List.all_eq_true.1 hb1 _ (List.getElem_mem hk)
            have hfl : l[k].flat = true := by
              generalize l[k] = c at h1
              cases c <;> first | exact h1 | rfl
            exact (hl k hk).flat hfl
        exact ⟨weak this, fun _ => this⟩
      · split at hb
        · rename_i ys bs hys
          cases hb
          obtain ⟨e1, e2⟩ := zipC_spec _ _ _ _ hys
          cases hx with
          | agg _ vs hn hl =>
            refine ⟨.agg ys vs (by rw [hn, e1]) (fun k hk => ?_), fun ho => .agg ys vs (by rw [hn, e1]) (fun k hk => ?_)⟩
            · obtain ⟨t, bi, q1, _⟩ := e2 k (by omega) hk
              exact (ih _ _ _ _ _ (hl k (by omega)) q1).1
            · obtain ⟨t, bi, q1, q2⟩ := e2 k (by omega) hk
              exact (ih _ _ _ _ _ (hl k (by omega)) q1).2 (q2 ho)
        · cases hb
    all_goals first
      | (simp only [Option.some.injEq, Prod.mk.injEq] at hb
         obtain ⟨rfl, rfl⟩ := hb
         have := hx.flat (ρ' := noOwn) rfl
         exact ⟨weak this, fun _ => this⟩)
      | (cases hb; done)
      | skip
    · obtain ⟨hb1, hb2⟩ := cond_some hb
      clear hb
      simp only [Option.some.injEq, Prod.mk.injEq] at hb2
      obtain ⟨rfl, rfl⟩ := hb2
      have := stays_rel (ρ' := noOwn) 4 _ _ hb1 hx
      exact ⟨weak this, fun _ => this⟩

theorem argsOf_sound {C : Cfg U} (h : RR C.E n N w0 ρ s a w) {look : Nat → Option (AObj U)} (hlook : ∀ id ob, look id = some ob → s.objs id = some ob) :
    ∀ (ts : List TypeId) (xs ys : List (AVal U)) (own : Bool) (vs : List Value), vs.length = xs.length → (∀ k (h : k < xs.length), Rel C.E w ρ (Stab N ρ w) xs[k] (vs.getD k undef)) → argsOf C look ts xs = some (ys, own) →
      ys.length = xs.length ∧ (∀ k (h : k < ys.length), Rel C.E w noOwn (Out' N w) ys[k] (vs.getD k undef)) ∧ (own = false → ∀ k (h : k < ys.length), Rel C.E w noOwn (Stab N ρ w) ys[k] (vs.getD k undef)) := by
  intro ts
  induction ts with
  | nil =>
    intro xs ys own vs hl hr ho
    cases xs with
    | nil =>
      simp only [argsOf, Option.some.injEq, Prod.mk.injEq] at ho
      obtain ⟨rfl, rfl⟩ := ho
      exact ⟨rfl, fun k h => absurd h (by simp), fun _ k h => absurd h (by simp)⟩
    | cons x xs => simp [argsOf] at ho
  | cons t ts ih =>
    intro xs ys own vs hl hr ho
    cases xs with
    | nil => simp [argsOf] at ho
    | cons x xs =>
      cases vs with
      | nil => simp at hl
      | cons v vs =>
        simp only [argsOf] at ho
        split at ho
        · rename_i y b ys' bs hb hbs
          simp only [Option.some.injEq, Prod.mk.injEq] at ho
          obtain ⟨rfl, rfl⟩ := ho
          have h0 := hr 0 (by simp)
          simp only [List.getElem_cons_zero, List.getD_cons_zero] at h0
          obtain ⟨h1, h2⟩ := byC_sound h hlook 5 t x y b v h0 hb
          obtain ⟨h3, h4, h5⟩ := ih xs ys' bs vs (by simpa using hl) (fun k hk => hr (k + 1) (by simp; omega)) hbs
          refine ⟨by simp [h3], fun k hk => ?_, fun ho k hk => ?_⟩
          · cases k with
            | zero => simpa using h1
            | succ k => exact h4 k (by simpa using hk)
          · simp only [Bool.or_eq_false_iff] at ho
            cases k with
            | zero => simpa using h2 ho.1
            | succ k => exact h5 ho.2 k (by simpa using hk)
        · cases ho

/-! ### New rows join a state -/
def joinR (ρ ρr : Nat → Option (Nat × Value)) (base m : Nat) : Nat → Option (Nat × Value) := fun id => if base ≤ id ∧ id < base + m then ρr (id - base) else ρ id

theorem putRows_tmps : ∀ (rows : List (NewRow U)) (s : ASt U) (b : Nat), (putRows s b rows).tmps = s.tmps := by
  intro rows
  induction rows with
  | nil => intro s b; rfl
  | cons r rows ih =>
    intro s b
    obtain ⟨t, xs⟩ := r
    simp only [putRows]
    rw [ih]
    rfl
theorem putRows_in : ∀ (rows : List (NewRow U)) (s : ASt U) (b k : Nat) (t : U.τ) (xs : List (U.T t)), rows[k]? = some ⟨t, xs⟩ → (putRows s b rows).objs (b + k) = some (.row t 0 xs) := by
  have out : ∀ (rows : List (NewRow U)) (s : ASt U) (b id : Nat), id < b → (putRows s b rows).objs id = s.objs id := by
    intro rows
    induction rows with
    | nil => intro s b id _; rfl
    | cons r rows ih =>
      intro s b id h
      obtain ⟨t, xs⟩ := r
      simp only [putRows]
      rw [ih _ _ _ (by omega)]
      show cond (Nat.beq id b) _ (s.objs id) = _
      rw [nbeq (by omega)]
      rfl
  intro rows
  induction rows with
  | nil => intro s b k t xs h; cases h
  | cons r rows ih =>
    intro s b k t xs h
    obtain ⟨t', xs'⟩ := r
    simp only [putRows]
    cases k with
    | zero =>
      simp only [List.getElem?_cons_zero, Option.some.injEq] at h
      cases h
      rw [out _ _ _ _ (by omega)]
      show cond (Nat.beq (b + 0) b) _ _ = _
      simp
    | succ k =>
      have := ih (s.obj b (.row t' 0 xs')) (b + 1) k t xs (by simpa using h)
      rw [show b + (k + 1) = b + 1 + k by omega]
      exact this
theorem putRows_out : ∀ (rows : List (NewRow U)) (s : ASt U) (b id : Nat), ¬ (b ≤ id ∧ id < b + rows.length) → (putRows s b rows).objs id = s.objs id := by
  intro rows
  induction rows with
  | nil => intro s b id _; rfl
  | cons r rows ih =>
    intro s b id h
    obtain ⟨t, xs⟩ := r
    simp only [putRows]
    simp only [List.length_cons] at h
    rw [ih _ _ _ (by omega)]
    show cond (Nat.beq id b) _ (s.objs id) = _
    rw [nbeq (by omega)]
    rfl

theorem RR.join {E : Enc U} (h : RR E n N w0 ρ s a w) (hb : Below w.heap.size w w') {base : Nat} {rows : List (NewRow U)} {ρr : Nat → Option (Nat × Value)} {Nr : Nat → Prop}
    (hfree : ∀ k, k < rows.length → s.objs (base + k) = none)
    (hrow : ∀ (k : Nat) (t : U.τ) (xs : List (U.T t)), rows[k]? = some (⟨t, xs⟩ : NewRow U) → RelObj E w' ρr (Stab Nr ρr w') w.heap.size k (.row t 0 xs)) (hdom : ∀ k g u, ρr k = some (g, u) → k < rows.length)
    (hsep : ∀ id id' g g' u u' b, ρr id = some (g, u) → ρr id' = some (g', u') → id ≠ id' → blk u = some b → blk u' ≠ some b)
    (hconv : ∀ (k : Nat) (t : U.τ) (xs : List (U.T t)) (x : U.T t) (c : AVal U) (v : Value), rows[k]? = some (⟨t, xs⟩ : NewRow U) → c ∈ E.enc t x → Rel E w' ρr (Stab Nr ρr w') c v → Rel E w' (joinR ρ ρr base rows.length) (Stab N (joinR ρ ρr base rows.length) w') c v) :
    RR E n N w0 (joinR ρ ρr base rows.length) (putRows s base rows) a w' := by
  have hblk : ∀ k g u b, ρr k = some (g, u) → blk u = some b → w.heap.size ≤ b ∧ b < w'.heap.size := fun k g u b hk hbl => by
    have hlt := hdom _ _ _ hk
    have hrk : rows[k]? = some ⟨rows[k].1, rows[k].2⟩ := by rw [List.getElem?_eq_getElem hlt]
    obtain ⟨g', u', q1, _, q2⟩ := (hrow k _ _ hrk).val
    rw [hk] at q1
    simp only [Option.some.injEq, Prod.mk.injEq] at q1
    obtain ⟨rfl, rfl⟩ := q1
    exact q2 b hbl
  have hin : ∀ id, base ≤ id ∧ id < base + rows.length → joinR ρ ρr base rows.length id = ρr (id - base) := fun id hi => by unfold joinR; rw [if_pos hi]
  have hout : ∀ id, ¬ (base ≤ id ∧ id < base + rows.length) → joinR ρ ρr base rows.length id = ρ id := fun id hi => by unfold joinR; rw [if_neg hi]
  have hold : ∀ id g u, ρ id = some (g, u) → joinR ρ ρr base rows.length id = some (g, u) := fun id g u hr => by
    by_cases hi : base ≤ id ∧ id < base + rows.length
    · obtain ⟨ob, hob⟩ := h.dom _ _ _ hr
      have := hfree (id - base) (by omega)
      rw [show base + (id - base) = id by omega, hob] at this
      cases this
    · rw [hout id hi]
      exact hr
  have hst : ∀ b, Stab N ρ w b → Stab N (joinR ρ ρr base rows.length) w' b ∧ w'.heap[b]? = w.heap[b]? := fun b ⟨q1, q2, q3⟩ => by
    refine ⟨⟨Nat.lt_of_lt_of_le q1 hb.size, q2, fun id g u hr hbl => ?_⟩, hb.block b q1⟩
    by_cases hi : base ≤ id ∧ id < base + rows.length
    · rw [hin id hi] at hr
      have := hblk _ _ _ _ hr hbl
      omega
    · rw [hout id hi] at hr
      exact q3 _ _ _ hr hbl
  refine ⟨h.defers, h.size, fun t => ?_, fun id ob hob => ?_, fun id g u hr => ?_, ?_, h.below.trans (hb.mono h.below.size), h.nlt⟩
  · rw [putRows_tmps]
    exact (h.tmps t).mono hst (fun _ _ _ hr => .inl (hold _ _ _ hr))
  · by_cases hi : base ≤ id ∧ id < base + rows.length
    · have hlt : id - base < rows.length := by omega
      have hrk : rows[id - base]? = some ⟨rows[id - base].1, rows[id - base].2⟩ := by rw [List.getElem?_eq_getElem hlt]
      have := putRows_in rows s base (id - base) _ _ hrk
      rw [show base + (id - base) = id by omega, hob] at this
      cases this
      obtain ⟨u, cs, q1, q2, q3, q4⟩ := hrow _ _ _ hrk
      refine ⟨u, cs, by rw [hin id hi]; exact q1, q2, ⟨q3.1, ?_⟩, fun i hi' k hk => hconv _ _ _ _ _ _ hrk (List.getElem_mem hk) (q4 i hi' k hk)⟩
      rcases q3.2 with q3 | ⟨gb, cap, cur, r1, r2, rest⟩
      · exact .inl q3
      · exact .inr ⟨gb, cap, cur, r1, Nat.le_trans h.below.size r2, rest⟩
    · rw [putRows_out rows s base id hi] at hob
      refine (h.objs id ob hob).mono hst (fun _ _ _ hr => .inl (hold _ _ _ hr)) (fun _ _ hr => hold _ _ _ hr) (fun g u b hr hbl => hb.block b ((h.own hr).2 b hbl).2)
  · by_cases hi : base ≤ id ∧ id < base + rows.length
    · have hlt : id - base < rows.length := by omega
      have hrk : rows[id - base]? = some ⟨rows[id - base].1, rows[id - base].2⟩ := by rw [List.getElem?_eq_getElem hlt]
      have := putRows_in rows s base (id - base) _ _ hrk
      rw [show base + (id - base) = id by omega] at this
      exact ⟨_, this⟩
    · rw [hout id hi] at hr
      rw [putRows_out rows s base id hi]
      exact h.dom _ _ _ hr
  · intro i j gi gj ui uj b hri hrj hij hbi hbj
    by_cases h1 : base ≤ i ∧ i < base + rows.length
    · rw [hin i h1] at hri
      by_cases h2 : base ≤ j ∧ j < base + rows.length
      · rw [hin j h2] at hrj
        exact hsep _ _ _ _ _ _ b hri hrj (by omega) hbi hbj
      · rw [hout j h2] at hrj
        have q1 := hblk _ _ _ _ hri hbi
        have q2 := (h.own hrj).2 b hbj
        omega
    · rw [hout i h1] at hri
      by_cases h2 : base ≤ j ∧ j < base + rows.length
      · rw [hin j h2] at hrj
        have q1 := hblk _ _ _ _ hrj hbj
        have q2 := (h.own hri).2 b hbi
        omega
      · rw [hout j h2] at hrj
        exact h.sep _ _ _ _ _ _ b hri hrj hij hbi hbj

theorem okRes_leaves {r : AVal U} (h : r.okRes = true) : LeafAll (fun c => ok1 c = true) r := by
  cases r with
  | tup l =>
    intro c hc
    have := List.all_eq_true.1 h c hc
    cases c with
    | agg m => exact fun d hd => List.all_eq_true.1 this d hd
    | _ => exact this
  | agg m => exact fun d hd => List.all_eq_true.1 h d hd
  | _ => exact h
theorem fresh_leaves {E : Enc U} {r : AVal U} (h : r.fresh E = true) : LeafAll (fun c => fr1 E c = true) r := by
  cases r with
  | tup l =>
    intro c hc
    have := List.all_eq_true.1 h c hc
    cases c with
    | agg m => exact fun d hd => List.all_eq_true.1 this d hd
    | _ => exact this
  | agg m => exact fun d hd => List.all_eq_true.1 h d hd
  | _ => exact h

/-- The kinds of the new slices are without addresses. -/
theorem fresh_news {E : Enc U} {r : AVal U} (h : r.fresh E = true) : ∀ (k : Nat) (t : U.τ) (xs : List (U.T t)), r.news[k]? = some (⟨t, xs⟩ : NewRow U) → E.plain t = true := by
  have one : ∀ (c : AVal U), fr1 E c = true → ∀ y ∈ news1 c, E.plain y.1 = true := by
    intro c hc y hy
    cases c with
    | new t xs =>
      simp only [news1, List.mem_singleton] at hy
      subst hy
      exact hc
    | _ => simp [news1] at hy
  have two : ∀ (c : AVal U), fr2 E c = true → ∀ y ∈ news2 c, E.plain y.1 = true := by
    intro c hc y hy
    cases c with
    | agg m =>
      simp only [news2, List.mem_flatMap] at hy
      obtain ⟨d, hd, hy⟩ := hy
      exact one d (List.all_eq_true.1 hc d hd) y hy
    | _ =>
      simp only [news2] at hy
      simp only [fr2] at hc
      exact one _ hc y hy
  intro k t xs hk
  have hm := List.mem_of_getElem? hk
  cases r with
  | tup l =>
    simp only [AVal.news, List.mem_flatMap] at hm
    obtain ⟨d, hd, hy⟩ := hm
    exact two d (List.all_eq_true.1 h d hd) _ hy
  | _ =>
    simp only [AVal.news] at hm
    simp only [AVal.fresh] at h
    exact two _ h _ hm

theorem callRes_sound {C : Cfg U} (hs : SumAt C w0) (h : RR C.E n N w0 ρ s a w) {look : Nat → Option (AObj U)} (hlook : ∀ id ob, look id = some ob → s.objs id = some ob)
    {f : FuncId} {ts : List TypeId} {xs : List (AVal U)} {args : Array Value} (hn : args.size = xs.length) (hx : ∀ k (h : k < xs.length), Rel C.E w ρ (Stab N ρ w) xs[k] (args.getD k undef))
    {cs : List Prop} {r : AVal U} (ho : callRes C look f ts xs = some (cs, r)) (hc : conj cs) :
    (callFunc f args).run C.P w = .ok (.enter f args) w ∧ Calls C.P f args w fun e w' => ∃ v, e = .returned v ∧ ∀ base, (∀ k, k < r.news.length → s.objs (base + k) = none) →
      ∃ ρ', RR C.E n N w0 ρ' (putRows s base r.news) a w' ∧ Rel C.E w' ρ' (Stab N ρ' w') (r.ownAs (base + ·)) v := by
  unfold callRes at ho
  split at ho
  · rename_i m hm
    split at ho
    · rename_i ys own hys
      split at ho
      · rename_i cs0 r0 hr
        obtain ⟨hb1, hb2⟩ := cond_some ho
        clear ho
        simp only [Option.some.injEq, Prod.mk.injEq] at hb2
        obtain ⟨rfl, rfl⟩ := hb2
        simp only [Bool.and_eq_true] at hb1
        obtain ⟨hok, hfr⟩ := hb1
        obtain ⟨hcall, hsum⟩ := hs f m hm
        refine ⟨hcall args w, ?_⟩
        obtain ⟨h1, h2, h3⟩ := argsOf_sound h hlook ts xs ys own args.toList (by simpa using hn) (fun k hk => by rw [getD_toList]; exact hx k hk) hys
        -- a new slice's place
        have osl_conv : ∀ {ρr : Nat → Option (Nat × Value)} {w' : World} {Nr : Nat → Prop} {base k : Nat} {t : U.τ} {xs : List (U.T t)} {u : Value}, r0.news[k]? = some (⟨t, xs⟩ : NewRow U) →
            (∀ (k : Nat) (t : U.τ) (xs : List (U.T t)), r0.news[k]? = some (⟨t, xs⟩ : NewRow U) → RelObj C.E w' ρr (Stab Nr ρr w') w.heap.size k (.row t 0 xs)) → Rel C.E w' ρr (Stab Nr ρr w') (.osl k 0) u →
            Rel C.E w' (joinR ρ ρr base r0.news.length) (Stab N (joinR ρ ρr base r0.news.length) w') (.osl (base + k) 0) u := by
          intro ρr w' Nr base k t xs u hk hrow hu
          have hlt : k < r0.news.length := (List.getElem?_eq_some_iff.1 hk).1
          have hj : joinR ρ ρr base r0.news.length (base + k) = ρr k := by
            unfold joinR
            rw [if_pos ⟨by omega, by omega⟩, Nat.add_sub_cancel_left]
          obtain ⟨u', cs', q1, q2, _⟩ := hrow k t xs hk
          cases hu with
          | osl _ _ _ q hp => exact .osl _ 0 _ (by rw [hj]; exact q) hp
          | oslOld _ _ g' u'' _ q hg =>
            rw [q1] at q
            simp only [Option.some.injEq, Prod.mk.injEq] at q
            omega
        cases own with
        | false =>
          have h4 := h3 rfl
          refine (hsum (fun b => N b ∨ ∃ id g u, ρ id = some (g, u) ∧ blk u = some b) w args ys _ _ h.below (fun b hb => ?_) ⟨by rw [hn, h1], fun k hk => ?_⟩ hr hc).mono ?_
          · rcases hb with hb | ⟨id, g, u, hu, hbl⟩
            · exact Nat.lt_of_lt_of_le (h.nlt b hb) h.below.size
            · exact ((h.own hu).2 b hbl).2
          · have := h4 k hk
            rw [getD_toList] at this
            refine this.mono (fun b ⟨q1, q2, q3⟩ => ⟨⟨q1, fun hq => ?_⟩, rfl⟩) (fun _ _ _ hr => by cases hr)
            rcases hq with hq | ⟨id, g, u, hu, hbl⟩
            · exact q2 hq
            · exact q3 _ _ _ hu hbl
          · rintro e w' ⟨v, rfl, ⟨ρr, f1, f2, f3, f4⟩, hbw⟩
            have hst : ∀ base b, Stab (fun b => N b ∨ ∃ id g u, ρ id = some (g, u) ∧ blk u = some b) ρr w' b → Stab N (joinR ρ ρr base r0.news.length) w' b := fun base b ⟨q1, q2, q3⟩ => by
              refine ⟨q1, fun hq => q2 (.inl hq), fun id g u hu hbl => ?_⟩
              unfold joinR at hu
              split at hu
              · exact q3 _ _ _ hu hbl
              · exact q2 (.inr ⟨id, g, u, hu, hbl⟩)
            have hfl : ∀ base (c : AVal U) (u : Value), c.flat = true → Rel C.E w' ρr (Stab (fun b => N b ∨ ∃ id g u, ρ id = some (g, u) ∧ blk u = some b) ρr w') c u → Rel C.E w' (joinR ρ ρr base r0.news.length) (Stab N (joinR ρ ρr base r0.news.length) w') c u := fun base c u hc hu =>
              (hu.flat (ρ' := noOwn) hc).mono (fun b hb => ⟨hst base b hb, rfl⟩) (fun _ _ _ hr => by cases hr)
            refine ⟨v, rfl, fun base hfree => ⟨joinR ρ ρr base r0.news.length, ?_, ?_⟩⟩
            · exact h.join hbw hfree f2 f3 f4 (fun k t xs x c v _ hcm hv => hfl base c v (C.E.enc_flat t x c hcm).1 hv)
            · refine leafMap_rel (p := fun c => ok1 c = true) (okRes_leaves hok) (fun k c u hpc hnew hu => ?_) f1
              by_cases hcn : ∃ t xs, c = .new t xs
              · obtain ⟨t, xs, rfl⟩ := hcn
                exact osl_conv (hnew t xs rfl) f2 hu
              · have e1 : own1 (fun k => k) k c = c := by
                  cases c <;> first | rfl | exact absurd ⟨_, _, rfl⟩ hcn
                have e2 : own1 (base + ·) k c = c := by
                  cases c <;> first | rfl | exact absurd ⟨_, _, rfl⟩ hcn
                rw [e1] at hu
                rw [e2]
                refine hfl base c u ?_ hu
                cases c <;> first | exact hpc | exact absurd ⟨_, _, rfl⟩ hcn
        | true =>
          have hfre : r0.fresh C.E = true := by simpa using hfr
          refine (hsum (fun _ => False) w args ys _ _ h.below (fun b hb => hb.elim) ⟨by rw [hn, h1], fun k hk => ?_⟩ hr hc).mono ?_
          · have := h2 k hk
            rw [getD_toList] at this
            exact this.mono (fun b q => ⟨⟨q.1, fun hq => hq⟩, rfl⟩) (fun _ _ _ hr => by cases hr)
          · rintro e w' ⟨v, rfl, ⟨ρr, f1, f2, f3, f4⟩, hbw⟩
            refine ⟨v, rfl, fun base hfree => ⟨joinR ρ ρr base r0.news.length, ?_, ?_⟩⟩
            · exact h.join hbw hfree f2 f3 f4 (fun k t xs x c v hk hcm hv => hv.pure (C.E.plain_ok t x (fresh_news hfre k t xs hk) c hcm))
            · refine leafMap_rel (p := fun c => fr1 C.E c = true) (fresh_leaves hfre) (fun k c u hpc hnew hu => ?_) f1
              by_cases hcn : ∃ t xs, c = .new t xs
              · obtain ⟨t, xs, rfl⟩ := hcn
                exact osl_conv (hnew t xs rfl) f2 hu
              · have e1 : own1 (fun k => k) k c = c := by
                  cases c <;> first | rfl | exact absurd ⟨_, _, rfl⟩ hcn
                have e2 : own1 (base + ·) k c = c := by
                  cases c <;> first | rfl | exact absurd ⟨_, _, rfl⟩ hcn
                rw [e1] at hu
                rw [e2]
                refine hu.pure ?_
                cases c <;> first | exact hpc | exact absurd ⟨_, _, rfl⟩ hcn
      · cases ho
    · cases ho
  · cases ho

theorem callOf_sound {C : Cfg U} (hs : SumAt C w0) (h : RR C.E n N w0 ρ s a w) {look : Nat → Option (AObj U)} (hlook : ∀ id ob, look id = some ob → s.objs id = some ob) {dst : Option Nat} (hfresh : ∀ d, dst = some d → look d = none → s.objs d = none)
    {f : FuncId} {ts : List TypeId} {xs : List (AVal U)} {args : Array Value} (hn : args.size = xs.length) (hx : ∀ k (h : k < xs.length), Rel C.E w ρ (Stab N ρ w) xs[k] (args.getD k undef))
    {cs : List Prop} {r : AVal U} {ob : Option (Nat × AObj U)} (ho : callOf C look dst f ts xs = some (cs, r, ob)) (hc : conj cs) :
    (callFunc f args).run C.P w = .ok (.enter f args) w ∧ Calls C.P f args w fun e w' => ∃ v, e = .returned v ∧ ∃ ρ', RR C.E n N w0 ρ' (s.putObj ob) a w' ∧ Rel C.E w' ρ' (Stab N ρ' w') r v := by
  unfold callOf at ho
  split at ho
  · rename_i cs0 r0 hr
    have key := fun hc => callRes_sound hs h hlook hn hx hr hc
    split at ho
    · rename_i hnil
      cases ho
      obtain ⟨k1, k2⟩ := key hc
      refine ⟨k1, k2.mono ?_⟩
      rintro e w' ⟨v, rfl, hv⟩
      obtain ⟨ρ', q1, q2⟩ := hv 0 (fun k hk => by rw [hnil] at hk; exact absurd hk (by simp))
      rw [hnil] at q1
      exact ⟨v, rfl, ρ', q1, q2⟩
    · rename_i t xs hone
      split at ho
      · rename_i d
        split at ho
        · rename_i hlk
          cases ho
          obtain ⟨k1, k2⟩ := key hc
          refine ⟨k1, k2.mono ?_⟩
          rintro e w' ⟨v, rfl, hv⟩
          obtain ⟨ρ', q1, q2⟩ := hv d (fun k hk => by
            rw [hone] at hk
            have : k = 0 := by simpa using hk
            subst this
            exact hfresh d rfl hlk)
          rw [hone] at q1
          exact ⟨v, rfl, ρ', q1, q2⟩
        · cases ho
      · cases ho
    · cases ho
  · cases ho
end
end Go.Vm
