/-
  What it means that a frame and a world are of an abstract state, and that this is kept by each kind of change. Conditions: none; lemmas over any program.
-/
import Derived.Test.YtohecfbnmmgimaaVmB
namespace Go.Vm
open Go.RowKit
set_option linter.unusedVariables false

section
variable {U : Univ}

/-- The blocks that the frame does not write: neither those that it must not name (N) nor its own. -/
def Stab (N : Nat → Prop) (ρ : Nat → Option (Nat × Value)) (w : World) (b : Nat) : Prop :=
  b < w.heap.size ∧ ¬ N b ∧ ∀ id g u, ρ id = some (g, u) → blk u ≠ some b

def RelObj (E : Enc U) (w : World) (ρ : Nat → Option (Nat × Value)) (st : Nat → Prop) (base id : Nat) : AObj U → Prop
  | .cells l => ∃ b c ty, ρ id = some (0, .pointer (some ⟨b, 0, none⟩)) ∧ base ≤ b ∧ w.heap[b]? = some (.cells c ty (0, 0)) ∧ c.size = l.length ∧
      ∀ k (h : k < l.length), Rel E w ρ st l[k] (c.getD k undef)
  | .row t g xs => ∃ u cs, ρ id = some (g, u) ∧ (∀ a, u ≠ .pointer a) ∧ w.ownsRow base (U.ety t) (U.size t) u xs.length cs ∧
      ∀ i (h : i < xs.length) k (hk : k < (E.enc t xs[i]).length), Rel E w ρ st (E.enc t xs[i])[k] (cs.getD (i * U.size t + k) undef)

structure RR (E : Enc U) (n : Nat) (N : Nat → Prop) (w0 : World) (ρ : Nat → Option (Nat × Value)) (s : ASt U) (a : Act) (w : World) : Prop where
  defers : a.defers = []
  size : a.tmps.size = n
  tmps : ∀ t, Rel E w ρ (Stab N ρ w) (s.tmps t) (a.tmps.getD t undef)
  objs : ∀ id ob, s.objs id = some ob → RelObj E w ρ (Stab N ρ w) w0.heap.size id ob
  dom : ∀ id g u, ρ id = some (g, u) → ∃ ob, s.objs id = some ob
  sep : ∀ id id' g g' u u' b, ρ id = some (g, u) → ρ id' = some (g', u') → id ≠ id' → blk u = some b → blk u' ≠ some b
  below : Below w0.heap.size w0 w
  nlt : ∀ b, N b → b < w0.heap.size

/-- The frame and the world are of the abstract state. -/
def R (E : Enc U) (n : Nat) (N : Nat → Prop) (w0 : World) (s : ASt U) (a : Act) (w : World) : Prop := ∃ ρ, RR E n N w0 ρ s a w

variable {E : Enc U} {n : Nat} {N : Nat → Prop} {w0 w w' : World} {ρ ρ' : Nat → Option (Nat × Value)} {s : ASt U} {a : Act}

theorem RelObj.val {st : Nat → Prop} {base id : Nat} {ob : AObj U} (h : RelObj E w ρ st base id ob) : ∃ g u, ρ id = some (g, u) ∧ u.oneCell' = true ∧ ∀ b, blk u = some b → base ≤ b ∧ b < w.heap.size := by
  cases ob with
  | cells l =>
    obtain ⟨b, c, ty, h1, h2, h3, _⟩ := h
    refine ⟨_, _, h1, rfl, fun b' hb' => ?_⟩
    simp only [blk, Option.some.injEq] at hb'
    subst hb'
    exact ⟨h2, (Array.getElem?_eq_some_iff.1 h3).1⟩
  | row t g xs =>
    obtain ⟨u, cs, h1, hp, h2, _⟩ := h
    refine ⟨_, _, h1, ?_, fun b' hb' => ?_⟩
    · rcases h2.2 with ⟨rfl, _⟩ | ⟨_, _, _, rfl, _⟩ <;> rfl
    · refine h2.lt b' ?_
      rcases h2.2 with ⟨rfl, _⟩ | ⟨_, _, _, rfl, _⟩
      · simp [blk] at hb'
      · simpa [blk, Value.ownBlock] using hb'

theorem RR.own (h : RR E n N w0 ρ s a w) {id g : Nat} {u : Value} (hu : ρ id = some (g, u)) : u.oneCell' = true ∧ ∀ b, blk u = some b → w0.heap.size ≤ b ∧ b < w.heap.size := by
  obtain ⟨ob, hob⟩ := h.dom _ _ _ hu
  obtain ⟨g', u', h1, h2, h3⟩ := (h.objs _ _ hob).val
  rw [hu] at h1
  simp only [Option.some.injEq, Prod.mk.injEq] at h1
  obtain ⟨rfl, rfl⟩ := h1
  exact ⟨h2, h3⟩

theorem rel_const {st : Nat → Prop} (v : Value) : Rel E w ρ st (ofConst v) v := by
  unfold ofConst
  split
  · exact .int _ _
  · exact .bool _
  · exact .str _
  · exact .nils
  · exact .raw _

theorem RR.eval (h : RR E n N w0 ρ s a w) (x : Operand) : Rel E w ρ (Stab N ρ w) (s.eval x) (a.eval x) := by
  cases x with
  | tmp t => exact h.tmps t
  | const v => exact rel_const v
  | global g => exact .any _
  | func f => exact .fn f [] #[] rfl (fun k hk => absurd hk (by simp))

theorem nbeq {i d : Nat} (h : ¬ i = d) : Nat.beq i d = false := by
  cases hb : Nat.beq i d
  · rfl
  · exact absurd (Nat.eq_of_beq_eq_true hb) h

theorem getD_set (c : Array Value) (i : Nat) (v : Value) (hi : i < c.size) (k : Nat) : (c.setIfInBounds i v).getD k undef = if k = i then v else c.getD k undef := by
  by_cases hk : k = i
  · subst hk
    simp [hi]
  · rw [if_neg hk]
    simp [Array.getElem?_setIfInBounds_ne (Ne.symm hk)]

theorem RR.put (h : RR E n N w0 ρ s a w) (dst : Option Tmp) (hd : ∀ d, dst = some d → d < n) {x : AVal U} {v : Value} (hv : Rel E w ρ (Stab N ρ w) x v) :
    RR E n N w0 ρ (s.put dst x) (a.put dst v) w := by
  cases dst with
  | none => exact h
  | some d =>
    have hdn := hd d rfl
    refine ⟨h.defers, by simpa [Act.put] using h.size, fun t => ?_, h.objs, h.dom, h.sep, h.below, h.nlt⟩
    show Rel E w ρ _ (cond (Nat.beq t d) x (s.tmps t)) ((a.tmps.setIfInBounds d v).getD t undef)
    rw [getD_set _ _ _ (by rw [h.size]; exact hdn)]
    by_cases ht : t = d
    · subst ht
      simpa using hv
    · rw [if_neg ht]
      have : Nat.beq t d = false := nbeq ht
      rw [this]
      exact h.tmps t

theorem RelObj.mono {st st' : Nat → Prop} {base id : Nat} {ob : AObj U}
    (hst : ∀ b, st b → st' b ∧ w'.heap[b]? = w.heap[b]?)
    (hρ : ∀ id g u, ρ id = some (g, u) → ρ' id = some (g, u) ∨ ((∀ a, u ≠ .pointer a) ∧ ∃ g' u', ρ' id = some (g', u') ∧ g < g'))
    (hsame : ∀ g u, ρ id = some (g, u) → ρ' id = some (g, u)) (hblk : ∀ g u b, ρ id = some (g, u) → blk u = some b → w'.heap[b]? = w.heap[b]?)
    (h : RelObj E w ρ st base id ob) : RelObj E w' ρ' st' base id ob := by
  cases ob with
  | cells l =>
    obtain ⟨b, c, ty, h1, h2, h3, h4, h5⟩ := h
    exact ⟨b, c, ty, hsame _ _ h1, h2, by rw [hblk _ _ b h1 rfl]; exact h3, h4, fun k hk => (h5 k hk).mono hst hρ⟩
  | row t g xs =>
    obtain ⟨u, cs, h1, hp, h2, h3⟩ := h
    refine ⟨u, cs, hsame _ _ h1, hp, ⟨h2.1, ?_⟩, fun i h k hk => (h3 i h k hk).mono hst hρ⟩
    rcases h2.2 with hn | ⟨g', cap, cur, rfl, hb, hg, rest⟩
    · exact .inl hn
    · exact .inr ⟨g', cap, cur, rfl, hb, by rw [hblk _ _ g' h1 rfl]; exact hg, rest⟩

/-- A world that has only grown. -/
theorem RR.ext (h : RR E n N w0 ρ s a w) (hb : Below w.heap.size w w') : RR E n N w0 ρ s a w' := by
  have hst : ∀ b, Stab N ρ w b → Stab N ρ w' b ∧ w'.heap[b]? = w.heap[b]? := fun b ⟨h1, h2, h3⟩ =>
    ⟨⟨Nat.lt_of_lt_of_le h1 hb.size, h2, h3⟩, hb.block b h1⟩
  refine ⟨h.defers, h.size, fun t => (h.tmps t).mono hst (fun _ _ _ hr => .inl hr), fun id ob hob => ?_, h.dom, h.sep, h.below.trans (hb.mono h.below.size), h.nlt⟩
  exact (h.objs id ob hob).mono hst (fun _ _ _ hr => .inl hr) (fun _ _ hr => hr) (fun g u b hr hbl => hb.block b ((h.own hr).2 b hbl).2)

theorem RR.drew (h : RR E n N w0 ρ s a w) : RR E n N w0 ρ s a w.drew :=
  h.ext ⟨rfl, rfl, rfl, Nat.le_refl _, fun _ _ => rfl⟩

def rset (ρ : Nat → Option (Nat × Value)) (id g : Nat) (u : Value) : Nat → Option (Nat × Value) := fun i => if i = id then some (g, u) else ρ i

/-- A block of the frame's own is new, or changes. -/
theorem RR.upd (h : RR E n N w0 ρ s a w) (id g' : Nat) (u' : Value) (ob : AObj U)
    (hold : ∀ g u, ρ id = some (g, u) → (g = g' ∧ u = u') ∨ ((∀ a, u ≠ .pointer a) ∧ g < g'))
    (hw : Below w0.heap.size w w') (hsame : ∀ b, b < w.heap.size → (∀ g u, ρ id = some (g, u) → blk u ≠ some b) → w'.heap[b]? = w.heap[b]?)
    (hnew : ∀ b, blk u' = some b → (∃ g u, ρ id = some (g, u) ∧ blk u = some b) ∨ (w.heap.size ≤ b))
    (hob : RelObj E w' (rset ρ id g' u') (Stab N (rset ρ id g' u') w') w0.heap.size id ob) : RR E n N w0 (rset ρ id g' u') (s.obj id ob) a w' := by
  have hst : ∀ b, Stab N ρ w b → Stab N (rset ρ id g' u') w' b ∧ w'.heap[b]? = w.heap[b]? := fun b ⟨h1, h2, h3⟩ => by
    refine ⟨⟨Nat.lt_of_lt_of_le h1 hw.size, h2, fun i g u hr hbl => ?_⟩, hsame b h1 (fun g u hr => h3 _ _ _ hr)⟩
    unfold rset at hr
    split at hr
    · simp only [Option.some.injEq, Prod.mk.injEq] at hr
      obtain ⟨rfl, rfl⟩ := hr
      rcases hnew b hbl with ⟨g, u, hg, hu⟩ | hge
      · exact h3 _ _ _ hg hu
      · omega
    · exact h3 _ _ _ hr hbl
  have hρ : ∀ i g u, ρ i = some (g, u) → rset ρ id g' u' i = some (g, u) ∨ ((∀ a, u ≠ .pointer a) ∧ ∃ g'' u'', rset ρ id g' u' i = some (g'', u'') ∧ g < g'') := fun i g u hr => by
    unfold rset
    by_cases hi : i = id
    · subst hi
      rw [if_pos rfl]
      rcases hold g u hr with ⟨rfl, rfl⟩ | ⟨hp, hg⟩
      · exact .inl rfl
      · exact .inr ⟨hp, _, _, rfl, hg⟩
    · rw [if_neg hi]
      exact .inl hr
  refine ⟨h.defers, h.size, fun t => (h.tmps t).mono hst hρ, fun i o ho => ?_, fun i g u hr => ?_, ?_, h.below.trans hw, h.nlt⟩
  · by_cases hi : i = id
    · subst hi
      have : (s.obj i ob).objs i = some ob := by simp [ASt.obj]
      rw [this] at ho
      obtain rfl := Option.some.inj ho
      exact hob
    · have : (s.obj id ob).objs i = s.objs i := by
        have : Nat.beq i id = false := nbeq hi
        simp [ASt.obj, this]
      rw [this] at ho
      refine (h.objs i o ho).mono hst hρ (fun g u hr => by unfold rset; rw [if_neg hi]; exact hr) (fun g u b hr hbl => ?_)
      exact hsame b ((h.own hr).2 b hbl).2 (fun g2 u2 hr2 hb2 => h.sep _ _ _ _ _ _ b hr hr2 hi hbl hb2)
  · by_cases hi : i = id
    · subst hi
      exact ⟨ob, by simp [ASt.obj]⟩
    · unfold rset at hr
      rw [if_neg hi] at hr
      obtain ⟨o, ho⟩ := h.dom _ _ _ hr
      have : Nat.beq i id = false := nbeq hi
      exact ⟨o, by simp [ASt.obj, this, ho]⟩
  · intro i j gi gj ui uj b hri hrj hij hbi hbj
    unfold rset at hri hrj
    by_cases hi : i = id
    · rw [if_pos hi] at hri
      rw [if_neg (fun e => hij (hi.trans e.symm))] at hrj
      simp only [Option.some.injEq, Prod.mk.injEq] at hri
      obtain ⟨rfl, rfl⟩ := hri
      rcases hnew b hbi with ⟨g, u, hg, hu⟩ | hge
      · exact h.sep _ _ _ _ _ _ b hg hrj (fun e => hij (hi.trans e)) hu hbj
      · have := ((h.own hrj).2 b hbj).2
        omega
    · rw [if_neg hi] at hri
      by_cases hj : j = id
      · rw [if_pos hj] at hrj
        simp only [Option.some.injEq, Prod.mk.injEq] at hrj
        obtain ⟨rfl, rfl⟩ := hrj
        rcases hnew b hbj with ⟨g, u, hg, hu⟩ | hge
        · exact h.sep _ _ _ _ _ _ b hri hg (fun e => hij (e.trans hj.symm)) hbi hu
        · have := ((h.own hri).2 b hbi).2
          omega
      · rw [if_neg hj] at hrj
        exact h.sep _ _ _ _ _ _ b hri hrj hij hbi hbj

/-- What the lemma above says of the values: they stay of their abstract values. -/
theorem RR.upd_rel (h : RR E n N w0 ρ s a w) (id g' : Nat) (u' : Value)
    (hold : ∀ g u, ρ id = some (g, u) → (g = g' ∧ u = u') ∨ ((∀ a, u ≠ .pointer a) ∧ g < g'))
    (hw : Below w0.heap.size w w') (hsame : ∀ b, b < w.heap.size → (∀ g u, ρ id = some (g, u) → blk u ≠ some b) → w'.heap[b]? = w.heap[b]?)
    (hnew : ∀ b, blk u' = some b → (∃ g u, ρ id = some (g, u) ∧ blk u = some b) ∨ (w.heap.size ≤ b))
    {x : AVal U} {v : Value} (hx : Rel E w ρ (Stab N ρ w) x v) : Rel E w' (rset ρ id g' u') (Stab N (rset ρ id g' u') w') x v := by
  have hst : ∀ b, Stab N ρ w b → Stab N (rset ρ id g' u') w' b ∧ w'.heap[b]? = w.heap[b]? := fun b ⟨h1, h2, h3⟩ => by
    refine ⟨⟨Nat.lt_of_lt_of_le h1 hw.size, h2, fun i g u hr hbl => ?_⟩, hsame b h1 (fun g u hr => h3 _ _ _ hr)⟩
    unfold rset at hr
    split at hr
    · simp only [Option.some.injEq, Prod.mk.injEq] at hr
      obtain ⟨rfl, rfl⟩ := hr
      rcases hnew b hbl with ⟨g, u, hg, hu⟩ | hge
      · exact h3 _ _ _ hg hu
      · omega
    · exact h3 _ _ _ hr hbl
  refine hx.mono hst (fun i g u hr => ?_)
  · unfold rset
    by_cases hi : i = id
    · subst hi
      rw [if_pos rfl]
      rcases hold g u hr with ⟨rfl, rfl⟩ | ⟨hp, hg⟩
      · exact .inl rfl
      · exact .inr ⟨hp, _, _, rfl, hg⟩
    · rw [if_neg hi]
      exact .inl hr
end
end Go.Vm
