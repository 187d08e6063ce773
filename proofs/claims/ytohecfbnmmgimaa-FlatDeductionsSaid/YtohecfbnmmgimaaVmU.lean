/-
  What is forgotten and renamed at the head of a loop leaves a state of the frame and the world. Conditions: none.
-/
import Derived.Test.YtohecfbnmmgimaaVmT
namespace Go.Vm
open Go.RowKit
set_option linter.unusedVariables false

section
variable {U : Univ} {E : Enc U} {n : Nat} {N : Nat → Prop} {w0 w w' : World} {ρ ρ' : Nat → Option (Nat × Value)} {s s' : ASt U} {a : Act}

theorem okCell_rel {st st' : Nat → Prop} {p : Nat → Bool} {x : AVal U} {v : Value} (hx : okCell p x = true) (hρ : ∀ id g u, p id = true → ρ id = some (g, u) → ρ' id = some (g, u)) (hst : ∀ b, st b → st' b)
    (h : Rel E w ρ st x v) : Rel E w ρ' st' x v := by
  have hflat : x.flat = true → Rel E w ρ' st' x v := fun hf => (h.flat (ρ' := fun _ => none) hf).mono (fun b hb => ⟨hst b hb, rfl⟩) (fun _ _ _ hr => by cases hr)
  cases x with
  | ptr id off =>
    cases h with
    | ptr _ _ b hb => exact .ptr id off b (hρ _ _ _ hx hb)
  | any => exact .any _
  | eptr => cases hx
  | osl => cases hx
  | _ => exact hflat hx

theorem okIds_rel {st st' : Nat → Prop} {p : Nat → Bool} {x : AVal U} {v : Value} (hx : okIds p x = true) (hρ : ∀ id g u, p id = true → ρ id = some (g, u) → ρ' id = some (g, u)) (hst : ∀ b, st b → st' b)
    (h : Rel E w ρ st x v) : Rel E w ρ' st' x v := by
  cases x with
  | agg l =>
    cases h with
    | agg _ vs hn hl => exact .agg l vs hn (fun k hk => okCell_rel (List.all_eq_true.1 hx _ (List.getElem_mem hk)) hρ hst (hl k hk))
  | tup l =>
    cases h with
    | tup _ vs hn hl => exact .tup l vs hn (fun k hk => okCell_rel (List.all_eq_true.1 hx _ (List.getElem_mem hk)) hρ hst (hl k hk))
  | fn f l =>
    cases h with
    | fn _ _ vs hn hl => exact .fn f l vs hn (fun k hk => okCell_rel (List.all_eq_true.1 hx _ (List.getElem_mem hk)) hρ hst (hl k hk))
  | ref l off =>
    cases h with
    | ref _ _ b o f hb hc hl => exact .ref l off b o f (hst b hb) hc (fun k hk => okCell_rel (List.all_eq_true.1 hx _ (List.getElem_mem hk)) hρ hst (hl k hk))
  | _ => exact okCell_rel hx hρ hst h

/-- The value in a slot. -/
def SlotIs (s : ASt U) (ρ : Nat → Option (Nat × Value)) (a : Act) (w : World) : Slot → Value → Prop
  | .tmp t, u => a.tmps.getD t undef = u
  | .cell i k, u => ∃ l b c ty, s.objs i = some (.cells l) ∧ ρ i = some (0, .pointer (some ⟨b, 0, none⟩)) ∧ w.heap[b]? = some (.cells c ty (0, 0)) ∧ k < l.length ∧ c.getD k undef = u

theorem slot_rel (h : RR E n N w0 ρ s a w) {sl : Slot} {x : AVal U} (hv : slotVal s sl = some x) : ∃ u, SlotIs s ρ a w sl u ∧ Rel E w ρ (Stab N ρ w) x u := by
  cases sl with
  | tmp t =>
    simp only [slotVal, Option.some.injEq] at hv
    subst hv
    exact ⟨_, rfl, h.tmps t⟩
  | cell i k =>
    simp only [slotVal] at hv
    split at hv
    · rename_i l hl
      obtain ⟨b, c, ty, h1, h2, h3, h4, h5⟩ := h.objs _ _ hl
      have hk := (List.getElem?_eq_some_iff.1 hv).1
      have hx := (List.getElem?_eq_some_iff.1 hv).2
      refine ⟨_, ⟨l, b, c, ty, hl, h1, h3, hk, rfl⟩, ?_⟩
      rw [← hx]
      exact h5 k hk
    · cases hv

/-- The row of an own slice, in the old names. -/
def RowIs (E : Enc U) (n : Nat) (N : Nat → Prop) (w0 : World) (ρ : Nat → Option (Nat × Value)) (w : World) (τ : U.τ) (xs : List (U.T τ)) (u : Value) : Prop :=
  (∀ a, u ≠ .pointer a) ∧ ∃ cs, w.ownsRow w0.heap.size (U.ety τ) (U.size τ) u xs.length cs ∧
    ∀ i (h : i < xs.length) k (hk : k < (E.enc τ xs[i]).length), Rel E w ρ (Stab N ρ w) (E.enc τ xs[i])[k] (cs.getD (i * U.size τ + k) undef)

theorem slotRow_sound (h : RR E n N w0 ρ s a w) {sl : Slot} {τ : U.τ} {j : Option Nat} {xs : List (U.T τ)} (hr : slotRow s sl τ = some (j, xs)) :
    ∃ u, SlotIs s ρ a w sl u ∧ RowIs E n N w0 ρ w τ xs u ∧ (j = none → u = .slice none 0 0) ∧ ∀ i, j = some i → ∃ g t ys, ρ i = some (g, u) ∧ s.objs i = some (.row t g ys) := by
  unfold slotRow at hr
  split at hr
  · rename_i hv
    simp only [Option.some.injEq, Prod.mk.injEq] at hr
    obtain ⟨rfl, rfl⟩ := hr
    obtain ⟨u, hu, hrel⟩ := slot_rel h hv
    cases hrel
    exact ⟨_, hu, ⟨(fun a e => by cases e), [], World.ownsRow_nil _ _ _ _, (fun i hi => absurd hi (by simp))⟩, (fun _ => rfl), (fun i e => by cases e)⟩
  · rename_i j' g hv
    split at hr
    · rename_i t g' ys hl
      have hbr := cond_some hr
      clear hr
      obtain ⟨hb, hr⟩ := hbr
      obtain rfl := Nat.eq_of_beq_eq_true hb
      split at hr
      · rename_i zs hz
        simp only [Option.some.injEq, Prod.mk.injEq] at hr
        obtain ⟨rfl, rfl⟩ := hr
        obtain ⟨rfl, rfl⟩ := castRow_spec hz
        obtain ⟨u, hu, hrel⟩ := slot_rel h hv
        obtain ⟨u1, cs, h1, hp, h2, h3⟩ := h.objs _ _ hl
        have hue : u1 = u := by
          cases hrel with
          | osl _ _ u' hr' hp' =>
            rw [h1] at hr'
            simp only [Option.some.injEq, Prod.mk.injEq, true_and] at hr'
            exact hr'
          | oslOld _ _ g' u' v hr' hg =>
            rw [h1] at hr'
            simp only [Option.some.injEq, Prod.mk.injEq] at hr'
            omega
        subst hue
        refine ⟨u1, hu, ⟨hp, cs, h2, h3⟩, (fun e => by cases e), fun i e => ?_⟩
        obtain rfl := Option.some.inj e
        exact ⟨g, t, ys, h1, hl⟩
      · cases hr
    · cases hr
  · cases hr

/-- What 'keepRows' builds: the new names' values. -/
structure Pack (E : Enc U) (n : Nat) (N : Nat → Prop) (w0 : World) (ρ : Nat → Option (Nat × Value)) (s : ASt U) (a : Act) (w : World) (g : Nat → Option (AObj U)) (own : List (Slot × Nat × U.τ)) (h : Nat → Option (AObj U)) (js : List Nat)
    (ρ' : Nat → Option (Nat × Value)) : Prop where
  obs : ∀ id ob, h id = some ob → (g id = some ob ∧ ρ' id = ρ id) ∨ (g id = none ∧ ∃ τ xs u, ob = .row τ 0 xs ∧ ρ' id = some (0, u) ∧ RowIs E n N w0 ρ w τ xs u)
  old : ∀ id ob, g id = some ob → h id = some ob ∧ ρ' id = ρ id
  src : ∀ id q u, ρ' id = some (q, u) → (∃ ob, h id = some ob) ∧ ((∃ ob, g id = some ob ∧ ρ id = some (q, u)) ∨ (g id = none ∧ (u = .slice none 0 0 ∨ ∃ j ∈ js, ∃ q0, ρ j = some (q0, u))))
  sep : ∀ id id' q q' u u' b, ρ' id = some (q, u) → ρ' id' = some (q', u') → id ≠ id' → blk u = some b → blk u' ≠ some b
  jrow : ∀ j ∈ js, ∃ t q xs, s.objs j = some (.row t q xs)
  slots : ∀ sl id τ, (sl, id, τ) ∈ own → ∃ u, ρ' id = some (0, u) ∧ SlotIs s ρ a w sl u ∧ ∀ a, u ≠ .pointer a

theorem keepRows_sound (hR : RR E n N w0 ρ s a w) {g : Nat → Option (AObj U)} (hg : ∀ id ob, g id = some ob → ∃ l, s.objs id = some (.cells l)) :
    ∀ (own : List (Slot × Nat × U.τ)) (h : Nat → Option (AObj U)) (js : List Nat), keepRows s g own = some (h, js) → ∃ ρ', Pack E n N w0 ρ s a w g own h js ρ' := by
  intro own
  induction own with
  | nil =>
    intro h js hk
    simp only [keepRows, Option.some.injEq, Prod.mk.injEq] at hk
    obtain ⟨rfl, rfl⟩ := hk
    refine ⟨fun id => if (g id).isSome then ρ id else none, fun id ob ho => .inl ⟨ho, by simp [ho]⟩, fun id ob ho => ⟨ho, by simp [ho]⟩, fun id q u hr => ?_, fun id id' q q' u u' b hr hr' hne => ?_, fun j hj => by simp at hj, fun _ _ _ hm => by simp at hm⟩
    · split at hr
      · rename_i hs
        obtain ⟨ob, ho⟩ := Option.isSome_iff_exists.1 hs
        exact ⟨⟨ob, ho⟩, .inl ⟨ob, ho, hr⟩⟩
      · cases hr
    · split at hr
      · split at hr'
        · exact hR.sep _ _ _ _ _ _ b hr hr' hne
        · cases hr'
      · cases hr
  | cons o own ih =>
    intro h js hk
    obtain ⟨sl, id, τ⟩ := o
    simp only [keepRows] at hk
    split at hk
    · rename_i h1 js1 j xs hk1 hrow
      split at hk
      · rename_i hnone
        obtain ⟨ρ1, P⟩ := ih h1 js1 hk1
        obtain ⟨u, hslot, hris, hnil, hj⟩ := slotRow_sound hR hrow
        have hfree : ρ1 id = none := by
          cases hq : ρ1 id with
          | none => rfl
          | some p =>
            obtain ⟨⟨ob, ho⟩, _⟩ := P.src id p.1 p.2 hq
            rw [hnone] at ho
            cases ho
        have hgn : g id = none := by
          cases hq : g id with
          | none => rfl
          | some ob =>
            have := (P.old id ob hq).1
            rw [hnone] at this
            cases this
        -- the new row, whichever list of old names
        have build : ∀ (js' : List Nat), (∀ i ∈ js', i ∈ js1 ∨ j = some i) → (∀ i ∈ js1, i ∈ js') → (∀ i, j = some i → i ∈ js' ∧ i ∉ js1) →
            Pack E n N w0 ρ s a w g ((sl, id, τ) :: own) (fun q => cond (Nat.beq q id) (some (.row τ 0 xs)) (h1 q)) js' (rset ρ1 id 0 u) := fun js' hj1 hj2 hj3 => by
          have hh : ∀ q, (cond (Nat.beq q id) (some (.row τ 0 xs)) (h1 q)) = if q = id then some (.row τ 0 xs) else h1 q := fun q => by
            by_cases hq : q = id
            · subst hq
              rw [Nat.beq_refl, if_pos rfl]
              rfl
            · rw [nbeq hq, if_neg hq]
              rfl
          have hsrcu : ∀ b, blk u = some b → ∃ i g0 t ys, j = some i ∧ ρ i = some (g0, u) ∧ s.objs i = some (.row t g0 ys) := fun b hb => by
            cases hjj : j with
            | none =>
              rw [hnil hjj] at hb
              cases hb
            | some i =>
              obtain ⟨g0, t, ys, h2, h3⟩ := hj i hjj
              exact ⟨i, g0, t, ys, rfl, h2, h3⟩
          -- the new row's block is no other's
          have hother : ∀ q gq uq b, q ≠ id → ρ1 q = some (gq, uq) → blk u = some b → blk uq ≠ some b := fun q gq uq b hq hr hb hbq => by
            obtain ⟨i, g0, t, ys, hji, hi1, hi2⟩ := hsrcu b hb
            obtain ⟨_, hs⟩ := P.src q gq uq hr
            rcases hs with ⟨ob, hgq, hrq⟩ | ⟨_, hs⟩
            · have hne : i ≠ q := fun e => by
                subst e
                obtain ⟨l, hl⟩ := hg _ _ hgq
                rw [hi2] at hl
                cases hl
              exact hR.sep _ _ _ _ _ _ b hi1 hrq hne hb hbq
            · rcases hs with rfl | ⟨j', hj', q0, hrj⟩
              · cases hbq
              · have hne : i ≠ j' := fun e => by
                  subst e
                  exact (hj3 i hji).2 hj'
                exact hR.sep _ _ _ _ _ _ b hi1 hrj hne hb hbq
          refine ⟨fun q ob ho => ?_, fun q ob ho => ?_, fun q gq uq hr => ?_, fun q q' gq gq' uq uq' b hr hr' hne hb => ?_, fun i hi => ?_, fun sl' id' τ' hm => ?_⟩
          · rw [hh] at ho
            split at ho
            · rename_i hq
              subst hq
              obtain rfl := Option.some.inj ho
              exact .inr ⟨hgn, τ, xs, u, rfl, by simp [rset], hris⟩
            · rename_i hq
              rcases P.obs q ob ho with ⟨h2, h3⟩ | ⟨h2, τ', xs', u', h3, h4, h5⟩
              · exact .inl ⟨h2, by simp [rset, hq, h3]⟩
              · exact .inr ⟨h2, τ', xs', u', h3, by simp [rset, hq, h4], h5⟩
          · have hq : q ≠ id := fun e => by subst e; rw [hgn] at ho; cases ho
            obtain ⟨h2, h3⟩ := P.old q ob ho
            exact ⟨by rw [hh, if_neg hq]; exact h2, by simp [rset, hq, h3]⟩
          · unfold rset at hr
            split at hr
            · rename_i hq
              subst hq
              simp only [Option.some.injEq, Prod.mk.injEq] at hr
              obtain ⟨rfl, rfl⟩ := hr
              refine ⟨⟨_, by rw [hh, if_pos rfl]⟩, .inr ⟨hgn, ?_⟩⟩
              cases hjj : j with
              | none => exact .inl (hnil hjj)
              | some i =>
                obtain ⟨g0, t, ys, h2, h3⟩ := hj i hjj
                exact .inr ⟨i, (hj3 i hjj).1, g0, h2⟩
            · rename_i hq
              obtain ⟨⟨ob, ho⟩, hs⟩ := P.src q gq uq hr
              refine ⟨⟨ob, by rw [hh, if_neg hq]; exact ho⟩, ?_⟩
              rcases hs with hs | ⟨h2, h3⟩
              · exact .inl hs
              · refine .inr ⟨h2, ?_⟩
                rcases h3 with h3 | ⟨j', hj', h4⟩
                · exact .inl h3
                · exact .inr ⟨j', hj2 j' hj', h4⟩
          · unfold rset at hr hr'
            split at hr
            · rename_i hq
              simp only [Option.some.injEq, Prod.mk.injEq] at hr
              obtain ⟨rfl, rfl⟩ := hr
              rw [if_neg (fun e => hne (hq.trans e.symm))] at hr'
              exact hother q' gq' uq' b (fun e => hne (hq.trans e.symm)) hr' hb
            · rename_i hq
              split at hr'
              · simp only [Option.some.injEq, Prod.mk.injEq] at hr'
                obtain ⟨rfl, rfl⟩ := hr'
                exact fun hb' => hother q gq uq b hq hr hb' hb
              · exact P.sep _ _ _ _ _ _ b hr hr' hne hb
          · rcases hj1 i hi with hi | hi
            · exact P.jrow i hi
            · obtain ⟨g0, t, ys, h2, h3⟩ := hj i hi
              exact ⟨t, g0, ys, h3⟩
          · rcases List.mem_cons.1 hm with e | hm
            · simp only [Prod.mk.injEq] at e
              obtain ⟨rfl, rfl, rfl⟩ := e
              exact ⟨u, by simp [rset], hslot, hris.1⟩
            · obtain ⟨u', h2, h3, h4⟩ := P.slots sl' id' τ' hm
              have hq : id' ≠ id := fun e => by subst e; rw [hfree] at h2; cases h2
              exact ⟨u', by simp [rset, hq, h2], h3, h4⟩
        split at hk
        · rename_i i
          cases hany : js1.any (Nat.beq i) with
          | true => rw [hany] at hk; cases hk
          | false =>
            rw [hany] at hk
            simp only [cond_false, Option.some.injEq, Prod.mk.injEq] at hk
            obtain ⟨rfl, rfl⟩ := hk
            refine ⟨_, build (i :: js1) (fun q hq => ?_) (fun q hq => List.mem_cons_of_mem _ hq) (fun q hq => ?_)⟩
            · rcases List.mem_cons.1 hq with rfl | hq
              · exact .inr rfl
              · exact .inl hq
            · obtain rfl := Option.some.inj hq
              refine ⟨List.mem_cons_self, fun hm => ?_⟩
              have := any_beq_mem.2 hm
              rw [hany] at this
              cases this
        · simp only [Option.some.injEq, Prod.mk.injEq] at hk
          obtain ⟨rfl, rfl⟩ := hk
          exact ⟨_, build js1 (fun q hq => .inl hq) (fun q hq => hq) (fun q hq => by cases hq)⟩
      · cases hk
    · cases hk
end
end Go.Vm
