/-
  A region in the order of its text is right. Conditions: the summaries of the called functions are right.
-/
import Derived.Test.YtohecfbnmmgimaaVmN
namespace Go.Vm
open Go.RowKit
set_option linter.unusedVariables false

section
variable {U : Univ} {n : Nat} {N : Nat → Prop} {w0 w w' : World} {ρ ρ' : Nat → Option (Nat × Value)} {s s' s1 s2 : ASt U} {a : Act}

theorem RR.weaken {E : Enc U} (h : RR E n N w0 ρ s1 a w) (ho : s2.objs = s1.objs) (ht : ∀ t, s2.tmps t = .any ∨ s2.tmps t = s1.tmps t) : RR E n N w0 ρ s2 a w := by
  refine ⟨h.defers, h.size, fun t => ?_, by rw [ho]; exact h.objs, by rw [ho]; exact h.dom, h.sep, h.below, h.nlt⟩
  rcases ht t with e | e
  · rw [e]; exact .any _
  · rw [e]; exact h.tmps t

theorem RR.putAny {E : Enc U} (h : RR E n N w0 ρ s a w) (dst : Option Tmp) (v : Value) : RR E n N w0 ρ (s.put dst .any) (a.put dst v) w := by
  cases dst with
  | none => exact h
  | some d =>
    refine ⟨h.defers, by simpa [Act.put] using h.size, fun t => ?_, h.objs, h.dom, h.sep, h.below, h.nlt⟩
    show Rel E w ρ _ (cond (Nat.beq t d) .any (s.tmps t)) ((a.tmps.setIfInBounds d v).getD t undef)
    by_cases ht : t = d
    · subst ht
      have : Nat.beq t t = true := Nat.beq_refl t
      rw [this]
      exact .any _
    · rw [nbeq ht]
      have := h.tmps t
      simpa [Array.getElem?_setIfInBounds_ne (Ne.symm ht)] using this

theorem bool_of_rel {E : Enc U} {st : Nat → Prop} {b : Bool} {v : Value} (h : Rel E w ρ st (.bool b) v) : v = .bool b := by cases h; rfl

theorem yielded_bool {E : Enc U} (h : RR E n N w0 ρ s a w) {ops : Array Oper} {g d : Nat} (hg : dstAt ops g = some d) {b : Bool} (hb : s.tmps d = .bool b) : yielded ops a.tmps g = some b := by
  have h1 := h.tmps d
  rw [hb] at h1
  have h2 := bool_of_rel h1
  have h3 : a.tmps[d]? = some (.bool b) := by
    cases hq : a.tmps[d]? with
    | none =>
      simp [hq] at h2
      cases h2
    | some v =>
      simp [hq] at h2
      rw [h2]
  unfold yielded
  unfold dstAt at hg
  rw [hg]
  simp [h3]

theorem guard_run {E : Enc U} (h : RR E n N w0 ρ s a w) {ops : Array Oper} {asm : List (Nat × Bool)} {o : Oper} (hg : guardState ops asm s o = .run) : Region.wanted o (yielded ops a.tmps) = true := by
  unfold guardState at hg
  unfold Region.wanted
  split at hg
  · rename_i hn
    rw [hn]
  · rename_i g want hn
    rw [hn]
    split at hg
    · cases hg
    · rename_i d hd
      split at hg
      · rename_i vs hv
        cases hc : Nat.beq vs.size 0 <;> rw [hc] at hg <;> cases hg
      · rename_i b hb
        cases hc : (asm.any fun p => Nat.beq p.1 g && (p.2 == want)) with
        | false => rw [hc] at hg; cases hg
        | true =>
          rw [hc] at hg
          simp only [cond_true] at hg
          split at hg
          · rename_i hw
            simp only [yielded_bool h hd hb]
            simpa using hw
          · cases hg
      · cases hg

theorem guard_skip {E : Enc U} (h : RR E n N w0 ρ s a w) {ops : Array Oper} {asm : List (Nat × Bool)} {o : Oper} (hg : guardState ops asm s o = .skip) : Region.wanted o (yielded ops a.tmps) = false := by
  unfold guardState at hg
  unfold Region.wanted
  split at hg
  · cases hg
  · rename_i g want hn
    rw [hn]
    split at hg
    · cases hg
    · rename_i d hd
      split at hg
      · rename_i vs hv
        have h1 := h.tmps d
        rw [hv] at h1
        have hy : yielded ops a.tmps g = none := by
          generalize hq : a.tmps.getD d undef = v at h1
          cases h1
          unfold yielded
          unfold dstAt at hd
          rw [hd]
          simp only [Option.bind_some]
          cases hz : a.tmps[d]? with
          | none => rfl
          | some v =>
            have : v = .tuple vs := by simpa [hz] using hq
            rw [this]
        simp [hy]
      · rename_i b hb
        cases hc : (asm.any fun p => Nat.beq p.1 g && (p.2 == want)) with
        | false => rw [hc] at hg; cases hg
        | true =>
          rw [hc] at hg
          simp only [cond_true] at hg
          split at hg <;> cases hg
      · cases hg

theorem guard_branch {ops : Array Oper} {asm : List (Nat × Bool)} {o : Oper} {d : Nat} {b want : Bool} (hg : guardState ops asm s o = .branch d b want) :
    ∃ g, o.guard = some (g, want) ∧ dstAt ops g = some d ∧ s.tmps d = .bool b := by
  unfold guardState at hg
  split at hg
  · cases hg
  · rename_i g want' hn
    split at hg
    · cases hg
    · rename_i d' hd
      split at hg
      · rename_i vs hv
        cases hc : Nat.beq vs.size 0 <;> rw [hc] at hg <;> cases hg
      · rename_i b' hb
        cases hc : (asm.any fun p => Nat.beq p.1 g && (p.2 == want')) with
        | false =>
          rw [hc] at hg
          simp only [cond_false, GS.branch.injEq] at hg
          obtain ⟨rfl, rfl, rfl⟩ := hg
          exact ⟨g, hn, hd, hb⟩
        | true =>
          rw [hc] at hg
          simp only [cond_true] at hg
          split at hg <;> cases hg
      · cases hg

theorem dstOk_lt {o : Oper} (h : dstOk n o = true) : ∀ d, o.dst = some d → d < n := fun d hd => by
  unfold dstOk at h
  rw [hd] at h
  exact Nat.le_of_ble_eq_true h

theorem step_sound {C : Cfg U} (hs : SumAt C w0) (h : RR C.E n N w0 ρ s a w) {o : Oper} {cs : List Prop} (ho : step C n s o = some (cs, s')) (hc : conj cs)
    {K : Act → World → Prop} {Q : Exit → Act → World → Prop} (hK : ∀ ρ' a' w', RR C.E n N w0 ρ' s' a' w' → K a' w') : o.wp C.P a w K Q := by
  unfold step at ho
  obtain ⟨hd, ho⟩ := cond_some ho
  split at ho
  · rename_i cs' v ob hop
    simp only [Option.some.injEq, Prod.mk.injEq] at ho
    obtain ⟨rfl, rfl⟩ := ho
    exact aop_sound hs h (fun _ _ h => h) (fun _ _ h => h) (dstOk_lt hd) hop hc (fun ρ' u w' hR => hK _ _ _ hR)
  · cases ho

theorem splitPick_spec {d : Nat} : ∀ {l sg : List Oper} {pk : Oper} {r : List Oper}, splitPick d l = some (sg, pk, r) → l = sg ++ pk :: r ∧ ∃ x y, pk.op = .pick (.tmp d) x y := by
  intro l
  induction l with
  | nil => intro sg pk r h; cases h
  | cons o l ih =>
    intro sg pk r h
    simp only [splitPick] at h
    cases hc : isPick d o with
    | true =>
      rw [hc] at h
      simp only [cond_true, Option.some.injEq, Prod.mk.injEq] at h
      obtain ⟨rfl, rfl, rfl⟩ := h
      refine ⟨rfl, ?_⟩
      unfold isPick at hc
      split at hc
      · rename_i t x y hop
        obtain rfl := Nat.eq_of_beq_eq_true hc
        exact ⟨x, y, hop⟩
      · cases hc
    | false =>
      rw [hc] at h
      simp only [cond_false] at h
      split at h
      · rename_i l' p r' hsp
        simp only [Option.some.injEq, Prod.mk.injEq] at h
        obtain ⟨rfl, rfl, rfl⟩ := h
        obtain ⟨h1, h2⟩ := ih hsp
        exact ⟨by rw [h1]; rfl, h2⟩
      · cases h

theorem clearAll_objs : ∀ (l : List Oper) (s : ASt U), (clearAll s l).objs = s.objs := by
  intro l
  induction l with
  | nil => intro s; rfl
  | cons o l ih =>
    intro s
    rw [clearAll, ih]
    cases o.dst <;> rfl

theorem clearAll_tmps : ∀ (l : List Oper) (s : ASt U) (t : Nat), ((∃ o ∈ l, o.dst = some t) ∨ s.tmps t = .any) ∧ (clearAll s l).tmps t = .any ∨ (∀ o ∈ l, o.dst ≠ some t) ∧ (clearAll s l).tmps t = s.tmps t := by
  intro l
  induction l with
  | nil => intro s t; exact .inr ⟨by simp, rfl⟩
  | cons o l ih =>
    intro s t
    have hput : (s.put o.dst .any).tmps t = if o.dst = some t then .any else s.tmps t := by
      cases hd : o.dst with
      | none => simp [ASt.put]
      | some d =>
        show cond (Nat.beq t d) .any (s.tmps t) = _
        by_cases hc : t = d
        · subst hc
          simp
        · rw [nbeq hc, if_neg (fun e => hc (Option.some.inj e).symm)]
          rfl
    rw [clearAll]
    rcases ih (s.put o.dst .any) t with ⟨h1, h2⟩ | ⟨h1, h2⟩
    · refine .inl ⟨?_, h2⟩
      rcases h1 with ⟨o', ho', hd⟩ | h1
      · exact .inl ⟨o', List.mem_cons_of_mem _ ho', hd⟩
      · rw [hput] at h1
        by_cases hd : o.dst = some t
        · exact .inl ⟨o, List.mem_cons_self, hd⟩
        · rw [if_neg hd] at h1
          exact .inr h1
    · rw [hput] at h2
      by_cases hd : o.dst = some t
      · rw [if_pos hd] at h2
        exact .inl ⟨.inl ⟨o, List.mem_cons_self, hd⟩, h2⟩
      · rw [if_neg hd] at h2
        exact .inr ⟨fun o' ho' => by
          rcases List.mem_cons.1 ho' with rfl | ho'
          · exact hd
          · exact h1 o' ho', h2⟩

/-- A guarded part that the guard shuts out. -/
theorem skip_sound {C : Cfg U} {ops : Array Oper} {Q : Exit → Act → World → Prop} {d : Nat} {b want : Bool} (hbw : b ≠ want) :
    ∀ (sg : List Oper) (sk : List Nat) (s : ASt U) (a : Act), RR C.E n N w0 ρ s a w → a.tmps.getD d undef = .bool b → (∀ t ∈ sk, a.tmps.getD t undef = undef) → skipOk ops d want sk sg = true →
      ∀ {K : Act → World → Prop}, (∀ a', RR C.E n N w0 ρ (clearAll s sg) a' w → a'.tmps.getD d undef = .bool b → K a' w) → wpl C.P ops Q sg K a w := by
  intro sg
  induction sg with
  | nil => intro sk s a h hd _ _ K hK; exact hK a h hd
  | cons o sg ih =>
    intro sk s a h hd hsk ho K hK
    simp only [skipOk] at ho
    split at ho
    · rename_i g w1 t hg ht
      split at ho
      · rename_i dg hdg
        simp only [Bool.and_eq_true, Bool.or_eq_true, Bool.not_eq_true'] at ho
        obtain ⟨⟨h1, h2⟩, h3⟩ := ho
        have htd : t ≠ d := fun e => by
          subst e
          rw [Nat.beq_refl] at h2
          cases h2
        have hy : yielded ops a.tmps g ≠ some w1 := by
          unfold yielded
          unfold dstAt at hdg
          rw [hdg]
          simp only [Option.bind_some]
          rcases h1 with ⟨h4, h5⟩ | h4
          · obtain rfl := Nat.eq_of_beq_eq_true h4
            have hw1 : w1 = want := by simpa using h5
            cases hz : a.tmps[dg]? with
            | none => simp
            | some v =>
              have : v = .bool b := by simpa [hz] using hd
              rw [this]
              simp only [ne_eq, Option.some.injEq]
              rw [hw1]
              exact hbw
          · obtain ⟨t', ht', hb⟩ := List.any_eq_true.1 h4
            obtain rfl := Nat.eq_of_beq_eq_true hb
            have := hsk _ ht'
            cases hz : a.tmps[dg]? with
            | none => simp
            | some v =>
              have : v = undef := by simpa [hz] using this
              rw [this]
              simp [undef]
        unfold wpl
        rw [if_neg (by
          unfold Region.wanted
          rw [hg]
          simpa using hy)]
        have hgetd : ∀ t', t' ≠ t → (a.put o.dst undef).tmps.getD t' undef = a.tmps.getD t' undef := fun t' hne => by
          rw [ht]
          simp [Act.put, Array.getElem?_setIfInBounds_ne (Ne.symm hne)]
        refine ih (t :: sk) (s.put o.dst .any) (a.put o.dst undef) (h.putAny _ _) (by rw [hgetd d (Ne.symm htd)]; exact hd) (fun t' ht' => ?_) h3 (fun a' hR hd' => hK a' hR hd')
        by_cases hc : t' = t
        · subst hc
          rw [ht]
          by_cases hlt : t' < a.tmps.size
          · simp [Act.put, hlt]
          · have : a.tmps.size ≤ t' := by omega
            simp [Act.put, this]
        · rw [hgetd t' hc]
          rcases List.mem_cons.1 ht' with e | ht'
          · exact absurd e hc
          · exact hsk t' ht'
      · cases ho
    · cases ho

theorem aop_pure {C : Cfg U} {o : Oper} {ev : Operand → AVal U} {look : Nat → Option (AObj U)} {cs : List Prop} {v : AVal U} {ob : Option (Nat × AObj U)} (hp : pureOp o = true) (h : aop C o ev look = some (cs, v, ob)) : ob = none := by
  have hval? : ∀ {x : Option (AVal U)}, val? x = some (cs, v, ob) → ob = none := fun {x} h => by
    unfold val? at h
    split at h
    · simp only [Option.some.injEq, Prod.mk.injEq] at h
      exact h.2.2.symm
    · cases h
  have hval : ∀ {x : AVal U}, val x = some (cs, v, ob) → ob = none := fun {x} h => by
    simp only [val, Option.some.injEq, Prod.mk.injEq] at h
    exact h.2.2.symm
  obtain ⟨dst, op, ty, pos, after, guard⟩ := o
  unfold aop at h
  unfold pureOp at hp
  cases op <;> (try simp only at h) <;> (try simp only at hp) <;> (try (cases hp; done))
  case move => exact hval h
  case pick =>
    split at h
    · exact hval h
    · split at h <;> exact hval h
    · cases h
  case build =>
    split at h
    · split at h
      · exact hval h
      · cases h
    · cases h
  case load =>
    split at h
    · exact hval? h
    · cases h
  case binOp =>
    split at h
    · simp only [Option.some.injEq, Prod.mk.injEq] at h
      exact h.2.2.symm
    · cases h
  case unOp => exact hval? h
  case fieldAddr =>
    split at h
    · unfold moveOn at h
      split at h
      · exact hval h
      · exact hval (cond_some h).2
      · exact hval h
      · cases h
    · cases h
  case field =>
    split at h
    · split at h
      · exact hval? h
      · cases h
    · cases h
  case indexAddr =>
    split at h
    · unfold indexAddrOf at h
      split at h
      · split at h
        · have := (cond_some h).2
          simp only [Option.some.injEq, Prod.mk.injEq] at this
          exact this.2.2.symm
        · split at h
          · have := (cond_some h).2
            simp only [Option.some.injEq, Prod.mk.injEq] at this
            exact this.2.2.symm
          · cases h
        · simp only [Option.some.injEq, Prod.mk.injEq] at h
          exact h.2.2.symm
        · cases h
      · split at h
        · split at h
          · simp only [Option.some.injEq, Prod.mk.injEq] at h
            exact h.2.2.symm
          · simp only [Option.some.injEq, Prod.mk.injEq] at h
            exact h.2.2.symm
          · cases h
        · cases h
      · cases h
    · cases h
  case index =>
    split at h
    · unfold indexOf at h
      split at h
      · simp only [Option.some.injEq, Prod.mk.injEq] at h
        exact h.2.2.symm
      · split at h
        · split at h
          · simp only [Option.some.injEq, Prod.mk.injEq] at h
            exact h.2.2.symm
          · cases h
        · cases h
      · cases h
    · cases h
  case slice t x lo hi mx =>
    have hsl : ∀ {x : AVal U} {lo hi : Option (AVal U)}, sliceOf C t x lo hi = some (cs, v, ob) → ob = none := fun {x lo hi} h => by
      unfold sliceOf at h
      split at h
      · split at h <;> first
          | (simp only [Option.some.injEq, Prod.mk.injEq] at h; exact h.2.2.symm)
          | (cases h; done)
      · have h := (cond_some h).2
        split at h <;> first
          | (simp only [Option.some.injEq, Prod.mk.injEq] at h; exact h.2.2.symm)
          | (cases h; done)
      · cases h
    cases mx with
    | some m => cases h
    | none => cases lo <;> cases hi <;> exact hsl h
  case extract =>
    split at h
    · exact hval? h
    · cases h
  case call c =>
    obtain ⟨callee, args, argTypes⟩ := c
    simp only at h hp
    split at h
    · split at h
      · split at h
        · exact hval h
        · cases h
      · cases h
    · exact hval? h
    · exact hval? h
    · cases hp
    · unfold callOf at h
      split at h
      · split at h
        · split at h
          · have := (cond_some h).2
            simp only [Option.some.injEq, Prod.mk.injEq] at this
            exact this.2.2.symm
          · cases h
        · cases h
      · cases h
    · cases h
end
end Go.Vm
