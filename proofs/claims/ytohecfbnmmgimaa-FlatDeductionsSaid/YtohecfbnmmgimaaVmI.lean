/-
  The abstract operations are right: all of them. Conditions: the summaries of the called functions are right.
-/
import Derived.Test.YtohecfbnmmgimaaVmH
namespace Go.Vm
open Go.RowKit
set_option linter.unusedVariables false

section
variable {U : Univ} {n : Nat} {N : Nat → Prop} {w0 w w' : World} {ρ ρ' : Nat → Option (Nat × Value)} {s : ASt U} {a : Act}

def noOwn : Nat → Option (Nat × Value) := fun _ => none
def Out' (N : Nat → Prop) (w : World) (b : Nat) : Prop := b < w.heap.size ∧ ¬ N b

def RelArgs (E : Enc U) (w : World) (N : Nat → Prop) (xs : List (AVal U)) (args : Array Value) : Prop :=
  args.size = xs.length ∧ ∀ k (h : k < xs.length), Rel E w noOwn (Out' N w) xs[k] (args.getD k undef)

/-- The summaries are right, in every world of the invariant. -/
def SumOK (C : Cfg U) : Prop := ∀ f m, C.sum f = some m → (∀ (args : Array Value) (w : World), (callFunc f args).run C.P w = .ok (.enter f args) w) ∧
  ∀ (N : Nat → Prop) (w : World) (args : Array Value) (xs : List (AVal U)) (cs : List Prop) (r : AVal U), C.inv w → (∀ b, N b → b < w.heap.size) → RelArgs C.E w N xs args → m xs = some (cs, r) → conj cs →
    Calls C.P f args w fun e w' => ∃ v, e = .returned v ∧ Rel C.E w' noOwn (Out' N w') r v ∧ Below w.heap.size w w'

/-- The summaries are right in the worlds that come behind a world. -/
def SumAt (C : Cfg U) (w0 : World) : Prop := ∀ f m, C.sum f = some m → (∀ (args : Array Value) (w : World), (callFunc f args).run C.P w = .ok (.enter f args) w) ∧
  ∀ (N : Nat → Prop) (w : World) (args : Array Value) (xs : List (AVal U)) (cs : List Prop) (r : AVal U), Below w0.heap.size w0 w → (∀ b, N b → b < w.heap.size) → RelArgs C.E w N xs args → m xs = some (cs, r) → conj cs →
    Calls C.P f args w fun e w' => ∃ v, e = .returned v ∧ Rel C.E w' noOwn (Out' N w') r v ∧ Below w.heap.size w w'

theorem SumOK.at {C : Cfg U} (h : SumOK C) {w0 : World} (hi : C.inv w0) : SumAt C w0 := fun f m hm => ⟨(h f m hm).1, fun N w args xs cs r hb => (h f m hm).2 N w args xs cs r (C.invOK w0 w hi hb)⟩

theorem Rel.pure {E : Enc U} {st st' : Nat → Prop} {x : AVal U} {v : Value} (hx : x.pure = true) (h : Rel E w ρ st x v) : Rel E w' ρ' st' x v := by
  cases h with
  | raw v => exact .raw v
  | int k n => exact .int k n
  | bool b => exact .bool b
  | str s => exact .str s
  | nils => exact .nils
  | _ => simp [AVal.pure] at hx

theorem Rel.bare {E : Enc U} {st st' : Nat → Prop} {x : AVal U} {v : Value} (hx : x.bare = true) (h : Rel E w ρ st x v) : Rel E w' ρ' st' x v := by
  have hagg : ∀ (l : List (AVal U)) v, l.all (·.pure) = true → Rel E w ρ st (.agg l) v → Rel E w' ρ' st' (.agg l) v := fun l v hl h => by
    cases h with
    | agg _ vs hn hr => exact .agg l vs hn (fun k hk => (hr k hk).pure (List.all_eq_true.1 hl _ (List.getElem_mem hk)))
  cases x with
  | agg l => exact hagg l v (by simpa [AVal.bare] using hx) h
  | tup l =>
    cases h with
    | tup _ vs hn hr =>
      refine .tup l vs hn (fun k hk => ?_)
      have h1 := hr k hk
      have h2 := List.all_eq_true.1 (show l.all (fun c => match c with | .agg l => l.all (·.pure) | c => c.pure) = true from hx) _ (List.getElem_mem hk)
      generalize l[k] = c at h1 h2
      cases c with
      | agg l' => exact hagg l' _ h2 h1
      | _ => exact h1.pure h2
  | _ => exact h.pure (by simpa [AVal.bare] using hx)

theorem byContent_sound {C : Cfg U} (h : RR C.E n N w0 ρ s a w) {look : Nat → Option (AObj U)} (hlook : ∀ id ob, look id = some ob → s.objs id = some ob) {ty : TypeId}
    {x y : AVal U} {own : Bool} {v : Value} (hx : Rel C.E w ρ (Stab N ρ w) x v) (hb : byContent C look ty x = some (y, own)) :
    Rel C.E w noOwn (Out' N w) y v ∧ (own = false → Rel C.E w noOwn (Stab N ρ w) y v) := by
  have weak : ∀ {y : AVal U} {v : Value}, Rel C.E w noOwn (Stab N ρ w) y v → Rel C.E w noOwn (Out' N w) y v := fun h => h.mono (fun b hb => ⟨⟨hb.1, hb.2.1⟩, rfl⟩) (fun _ _ _ hr => by cases hr)
  have hownb : ∀ {id g : Nat} {u : Value} {b : Nat}, ρ id = some (g, u) → blk u = some b → Out' N w b := fun hu hb => ⟨((h.own hu).2 _ hb).2, fun hn => by
    have h1 := ((h.own hu).2 _ hb).1
    have h2 := h.nlt _ hn
    omega⟩
  unfold byContent at hb
  split at hb
  · split at hb
    · rename_i id g _ t g' xs hl
      have hbb := cond_some hb
      clear hb
      obtain ⟨hb1, hb2⟩ := hbb
      simp only [Option.some.injEq, Prod.mk.injEq] at hb2
      obtain ⟨rfl, rfl⟩ := hb2
      obtain rfl := Nat.eq_of_beq_eq_true hb1
      refine ⟨?_, fun e => by cases e⟩
      obtain ⟨u, cs, h1, hp, h2, h3, _⟩ := h.rowElems (hlook _ _ hl)
      have hu : u = v := by
        cases hx with
        | osl _ _ u' hr' hp' =>
          rw [h1] at hr'
          simp only [Option.some.injEq, Prod.mk.injEq, true_and] at hr'
          exact hr'
        | oslOld _ _ g' u' v hr' hg =>
          rw [h1] at hr'
          simp only [Option.some.injEq, Prod.mk.injEq] at hr'
          omega
      subst hu
      rcases h3 with ⟨rfl, rfl⟩ | ⟨b, o, cap, f, rfl, hcap, hc, hl'⟩
      · exact .sl0 t
      · refine .sl t xs b o cap f ?_ hcap hc (fun i hi k hk => ?_)
        · exact hownb h1 rfl
        · have := hl' i hi k hk
          exact (this.flat (ρ' := noOwn) (C.E.enc_flat t _ _ (List.getElem_mem hk)).1).mono (fun b hb => ⟨⟨hb.1, hb.2.1⟩, rfl⟩) (fun _ _ _ hr => by cases hr)
    · cases hb
  · split at hb
    · simp only [Option.some.injEq, Prod.mk.injEq] at hb
      obtain ⟨rfl, rfl⟩ := hb
      cases hx
      exact ⟨.sl0 _, fun _ => .sl0 _⟩
    · cases hb
  · split at hb
    · rename_i id off _ l hl
      have hbb := cond_some hb
      clear hb
      obtain ⟨hb1, hb2⟩ := hbb
      simp only [Option.some.injEq, Prod.mk.injEq] at hb2
      obtain ⟨rfl, rfl⟩ := hb2
      refine ⟨?_, fun e => by cases e⟩
      obtain ⟨b, c, ty', h1, h2, h3, h4, h5⟩ := h.objs _ _ (hlook _ _ hl)
      cases hx with
      | ptr _ _ b' hb' =>
        rw [h1] at hb'
        simp only [Option.some.injEq, Prod.mk.injEq, true_and, Value.pointer.injEq, Addr.mk.injEq, and_true] at hb'
        subst hb'
        have := Rel.ref (E := C.E) (w := w) (ρ := noOwn) (st := Out' N w) l off b 0 (fun k => c.getD k undef) (hownb h1 rfl) (fun k hk => by
          rw [Nat.zero_add, cell_of_row w b k c ty' (0, 0) h3]
          have : k < c.size := by omega
          simp [this]) (fun k hk => by
            have h6 := h5 k hk
            have hfl := List.all_eq_true.1 hb1 _ (List.getElem_mem hk)
            exact (h6.flat (ρ' := noOwn) hfl).mono (fun b hb => ⟨⟨hb.1, hb.2.1⟩, rfl⟩) (fun _ _ _ hr => by cases hr))
        simpa using this
    · cases hb
  · rename_i l
    have hbb := cond_some hb
    clear hb
    obtain ⟨hb1, hb2⟩ := hbb
    simp only [Option.some.injEq, Prod.mk.injEq] at hb2
    obtain ⟨rfl, rfl⟩ := hb2
    have : Rel C.E w noOwn (Stab N ρ w) (.agg l) v := by
      cases hx with
      | agg _ vs hn hl =>
        refine .agg l vs hn (fun k hk => ?_)
        have h1 := List.all_eq_true.1 hb1 _ (List.getElem_mem hk)
        have hfl : l[k].flat = true := by
          generalize l[k] = c at h1
          cases c <;> first | exact h1 | rfl
        exact (hl k hk).flat hfl
    exact ⟨weak this, fun _ => this⟩
  all_goals first
    | (simp only [Option.some.injEq, Prod.mk.injEq] at hb
       obtain ⟨rfl, rfl⟩ := hb
       have := hx.flat (ρ' := noOwn) rfl
       exact ⟨weak this, fun _ => this⟩)
    | (cases hb; done)
    | skip
  · have hbb := cond_some hb
    clear hb
    obtain ⟨hb1, hb2⟩ := hbb
    simp only [Option.some.injEq, Prod.mk.injEq] at hb2
    obtain ⟨rfl, rfl⟩ := hb2
    rename_i l off
    have : Rel C.E w noOwn (Stab N ρ w) (.ref l off) v := by
      cases hx with
      | ref _ _ b o f hst hc hl => exact .ref l off b o f hst hc (fun k hk => (hl k hk).flat (List.all_eq_true.1 hb1 _ (List.getElem_mem hk)))
    exact ⟨weak this, fun _ => this⟩

theorem argsOf_sound {C : Cfg U} (h : RR C.E n N w0 ρ s a w) {look : Nat → Option (AObj U)} (hlook : ∀ id ob, look id = some ob → s.objs id = some ob) :
    ∀ (ts : List TypeId) (xs ys : List (AVal U)) (own : Bool) (vs : List Value), vs.length = xs.length → (∀ k (h : k < xs.length), Rel C.E w ρ (Stab N ρ w) xs[k] (vs.getD k undef)) → argsOf C look ts xs = some (ys, own) →
      ys.length = xs.length ∧ (∀ k (h : k < ys.length), Rel C.E w noOwn (Out' N w) ys[k] (vs.getD k undef)) ∧ (own = false → ∀ k (h : k < ys.length), Rel C.E w noOwn (Stab N ρ w) ys[k] (vs.getD k undef)) := by
  intro ts
  induction ts with
  | nil =>
    intro xs ys own vs hl hr ho
    cases xs with
    | nil =>
      simp only [argsOf, Option.some.injEq, Prod.mk.injEq] at ho
      obtain ⟨rfl, rfl⟩ := ho
      exact ⟨rfl, fun k h => absurd h (by simp), fun _ k h => absurd h (by simp)⟩
    | cons x xs => simp [argsOf] at ho
  | cons t ts ih =>
    intro xs ys own vs hl hr ho
    cases xs with
    | nil => simp [argsOf] at ho
    | cons x xs =>
      cases vs with
      | nil => simp at hl
      | cons v vs =>
        simp only [argsOf] at ho
        split at ho
        · rename_i y b ys' bs hb hbs
          simp only [Option.some.injEq, Prod.mk.injEq] at ho
          obtain ⟨rfl, rfl⟩ := ho
          have h0 := hr 0 (by simp)
          simp only [List.getElem_cons_zero, List.getD_cons_zero] at h0
          obtain ⟨h1, h2⟩ := byContent_sound h hlook h0 hb
          obtain ⟨h3, h4, h5⟩ := ih xs ys' bs vs (by simpa using hl) (fun k hk => hr (k + 1) (by simp; omega)) hbs
          refine ⟨by simp [h3], fun k hk => ?_, fun ho k hk => ?_⟩
          · cases k with
            | zero => simpa using h1
            | succ k => exact h4 k (by simpa using hk)
          · simp only [Bool.or_eq_false_iff] at ho
            cases k with
            | zero => simpa using h2 ho.1
            | succ k => exact h5 ho.2 k (by simpa using hk)
        · cases ho

theorem callOf_sound {C : Cfg U} (hs : SumAt C w0) (h : RR C.E n N w0 ρ s a w) {look : Nat → Option (AObj U)} (hlook : ∀ id ob, look id = some ob → s.objs id = some ob)
    {f : FuncId} {ts : List TypeId} {xs : List (AVal U)} {args : Array Value} (hn : args.size = xs.length) (hx : ∀ k (h : k < xs.length), Rel C.E w ρ (Stab N ρ w) xs[k] (args.getD k undef))
    {cs : List Prop} {r : AVal U} {ob : Option (Nat × AObj U)} (ho : callOf C look f ts xs = some (cs, r, ob)) (hc : conj cs) :
    ob = none ∧ (callFunc f args).run C.P w = .ok (.enter f args) w ∧ Calls C.P f args w fun e w' => ∃ v, e = .returned v ∧ RR C.E n N w0 ρ s a w' ∧ Rel C.E w' ρ (Stab N ρ w') r v := by
  unfold callOf at ho
  split at ho
  · rename_i m hm
    split at ho
    · rename_i ys own hys
      split at ho
      · rename_i cs0 r0 hr
        have hbb := cond_some ho
        clear ho
        obtain ⟨hb1, hb2⟩ := hbb
        simp only [Option.some.injEq, Prod.mk.injEq] at hb2
        obtain ⟨rfl, rfl, rfl⟩ := hb2
        obtain ⟨hcall, hsum⟩ := hs f m hm
        refine ⟨rfl, hcall args w, ?_⟩
        obtain ⟨h1, h2, h3⟩ := argsOf_sound h hlook ts xs ys own args.toList (by simpa using hn) (fun k hk => by rw [getD_toList]; exact hx k hk) hys
        cases own with
        | false =>
          have h4 := h3 rfl
          refine (hsum (fun b => N b ∨ ∃ id g u, ρ id = some (g, u) ∧ blk u = some b) w args ys _ _ h.below (fun b hb => ?_) ⟨by rw [hn, h1], fun k hk => ?_⟩ hr hc).mono ?_
          · rcases hb with hb | ⟨id, g, u, hu, hbl⟩
            · exact Nat.lt_of_lt_of_le (h.nlt b hb) h.below.size
            · exact ((h.own hu).2 b hbl).2
          · have := h4 k hk
            rw [getD_toList] at this
            refine this.mono (fun b ⟨q1, q2, q3⟩ => ⟨⟨q1, fun hq => ?_⟩, rfl⟩) (fun _ _ _ hr => by cases hr)
            rcases hq with hq | ⟨id, g, u, hu, hbl⟩
            · exact q2 hq
            · exact q3 _ _ _ hu hbl
          · rintro e w' ⟨v, rfl, hv, hbw⟩
            refine ⟨v, rfl, h.ext hbw, ?_⟩
            refine hv.mono (fun b ⟨q1, q2⟩ => ⟨⟨q1, fun hq => q2 (.inl hq), fun id g u hu hbl => q2 (.inr ⟨id, g, u, hu, hbl⟩)⟩, rfl⟩) (fun _ _ _ hr => by cases hr)
        | true =>
          have hbare : r0.bare = true := by simpa using hb1
          refine (hsum (fun _ => False) w args ys _ _ h.below (fun b hb => hb.elim) ⟨by rw [hn, h1], fun k hk => ?_⟩ hr hc).mono ?_
          · have := h2 k hk
            rw [getD_toList] at this
            exact this.mono (fun b q => ⟨⟨q.1, fun hq => hq⟩, rfl⟩) (fun _ _ _ hr => by cases hr)
          · rintro e w' ⟨v, rfl, hv, hbw⟩
            exact ⟨v, rfl, h.ext hbw, hv.bare hbare⟩
      · cases ho
    · cases ho
  · cases ho
end
end Go.Vm
