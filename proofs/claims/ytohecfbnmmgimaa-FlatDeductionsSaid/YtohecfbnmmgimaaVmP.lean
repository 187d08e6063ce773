/-
  The abstract run of a region in the order of its text is right. Conditions: the summaries of the called functions are right.
-/
import Derived.Test.YtohecfbnmmgimaaVmO
namespace Go.Vm
open Go.RowKit
set_option linter.unusedVariables false

section
variable {U : Univ} {n : Nat} {N : Nat → Prop} {w0 w w' : World} {ρ ρ' : Nat → Option (Nat × Value)} {s s' s1 s2 : ASt U} {a : Act}

theorem conj_append (l m : List Prop) : conj (l ++ m) ↔ conj l ∧ conj m := by
  simp only [conj_iff, List.mem_append]
  exact ⟨fun h => ⟨fun p hp => h p (.inl hp), fun p hp => h p (.inr hp)⟩, fun ⟨h1, h2⟩ p hp => hp.elim (h1 p) (h2 p)⟩

theorem guarded_conj {p : Prop} {cs : List Prop} (h : conj (guarded p cs)) (hp : p) : conj cs := by
  cases cs with
  | nil => trivial
  | cons c cs => exact h hp

theorem step_frame {C : Cfg U} {o : Oper} {cs : List Prop} (hp : pureOp o = true) (h : step C n s o = some (cs, s')) : s'.objs = s.objs ∧ ∀ t, o.dst ≠ some t → s'.tmps t = s.tmps t := by
  unfold step at h
  obtain ⟨_, h⟩ := cond_some h
  split at h
  · rename_i cs' v ob hop
    simp only [Option.some.injEq, Prod.mk.injEq] at h
    obtain ⟨rfl, rfl⟩ := h
    obtain rfl := aop_pure hp hop
    cases hd : o.dst with
    | none => exact ⟨rfl, fun t _ => rfl⟩
    | some d =>
      refine ⟨rfl, fun t ht => ?_⟩
      show cond (Nat.beq t d) v (s.tmps t) = s.tmps t
      rw [nbeq (fun e => ht (by rw [e]))]
      rfl
  · cases h

theorem put_frame (s : ASt U) (dst : Option Tmp) (v : AVal U) : (s.put dst v).objs = s.objs ∧ ∀ t, dst ≠ some t → (s.put dst v).tmps t = s.tmps t := by
  cases dst with
  | none => exact ⟨rfl, fun t _ => rfl⟩
  | some d =>
    refine ⟨rfl, fun t ht => ?_⟩
    show cond (Nat.beq t d) v (s.tmps t) = s.tmps t
    rw [nbeq (fun e => ht (by rw [e]))]
    rfl

theorem clearAll_frame (l : List Oper) (s : ASt U) : (clearAll s l).objs = s.objs ∧ ∀ t, (∀ o ∈ l, o.dst ≠ some t) → (clearAll s l).tmps t = s.tmps t := by
  refine ⟨clearAll_objs l s, ?_⟩
  induction l generalizing s with
  | nil => intro t _; rfl
  | cons o l ih =>
    intro t ht
    rw [clearAll, ih _ t (fun o' ho' => ht o' (List.mem_cons_of_mem _ ho'))]
    exact (put_frame s o.dst .any).2 t (ht o List.mem_cons_self)

theorem crun_frame {C : Cfg U} {ops : Array Oper} : ∀ (f : Nat) (asm : List (Nat × Bool)) (l : List Oper) (s s' : ASt U) (cs : List Prop), crun C n ops f asm l s = some (cs, s') → l.all pureOp = true →
    s'.objs = s.objs ∧ ∀ t, (∀ o ∈ l, o.dst ≠ some t) → s'.tmps t = s.tmps t := by
  intro f
  induction f with
  | zero => intro asm l s s' cs h; cases h
  | succ f ih =>
    intro asm l s s' cs h hp
    unfold crun at h
    split at h
    · simp only [Option.some.injEq, Prod.mk.injEq] at h
      obtain ⟨rfl, rfl⟩ := h
      exact ⟨rfl, fun _ _ => rfl⟩
    · rename_i o rest
      simp only [List.all_cons, Bool.and_eq_true] at hp
      split at h
      · split at h
        · rename_i cs1 s1 hs1
          split at h
          · rename_i cs2 s2 hs2
            simp only [Option.some.injEq, Prod.mk.injEq] at h
            obtain ⟨rfl, rfl⟩ := h
            obtain ⟨h1, h2⟩ := step_frame hp.1 hs1
            obtain ⟨h3, h4⟩ := ih _ _ _ _ _ hs2 hp.2
            exact ⟨h3.trans h1, fun t ht => (h4 t (fun o' ho' => ht o' (List.mem_cons_of_mem _ ho'))).trans (h2 t (ht o List.mem_cons_self))⟩
          · cases h
        · cases h
      · obtain ⟨_, h⟩ := cond_some h
        obtain ⟨h3, h4⟩ := ih _ _ _ _ _ h hp.2
        obtain ⟨h1, h2⟩ := put_frame s o.dst (.raw undef)
        exact ⟨h3.trans h1, fun t ht => (h4 t (fun o' ho' => ht o' (List.mem_cons_of_mem _ ho'))).trans (h2 t (ht o List.mem_cons_self))⟩
      · rename_i d b want hg
        split at h
        · rename_i sg pk rest' hsp
          obtain ⟨hl, _⟩ := splitPick_spec hsp
          split at h
          · obtain ⟨hcnd, h⟩ := cond_some h
            split at h
            · split at h
              · split at h
                · rename_i cs2 s2 hs2
                  simp only [Option.some.injEq, Prod.mk.injEq] at h
                  obtain ⟨rfl, rfl⟩ := h
                  have hpl : (o :: rest).all pureOp = true := by simp [hp.1, hp.2]
                  rw [hl] at hpl ⊢
                  simp only [List.all_append, List.all_cons, Bool.and_eq_true] at hpl
                  obtain ⟨h3, h4⟩ := ih _ _ _ _ _ hs2 hpl.2.2
                  rename_i x y v _ _
                  obtain ⟨h1, h2⟩ := clearAll_frame sg s
                  obtain ⟨h5, h6⟩ := put_frame (clearAll s sg) pk.dst v
                  refine ⟨h3.trans (h5.trans h1), fun t ht => ?_⟩
                  rw [h4 t (fun o' ho' => ht o' (by simp [ho'])), h6 t (ht pk (by simp)), h2 t (fun o' ho' => ht o' (by simp [ho']))]
                · cases h
              · cases h
            · cases h
          · cases h
        · cases h
      · cases h

theorem skipOk_ne {ops : Array Oper} {d : Nat} {want : Bool} : ∀ (sg : List Oper) (sk : List Nat), skipOk ops d want sk sg = true → ∀ o ∈ sg, o.dst ≠ some d := by
  intro sg
  induction sg with
  | nil => intro sk _ o ho; cases ho
  | cons o sg ih =>
    intro sk h o' ho'
    simp only [skipOk] at h
    split at h
    · rename_i g w1 t hg ht
      split at h
      · simp only [Bool.and_eq_true, Bool.not_eq_true'] at h
        rcases List.mem_cons.1 ho' with rfl | ho'
        · rw [ht]
          intro e
          obtain rfl := Option.some.inj e
          rw [Nat.beq_refl] at h
          cases h.1.2
        · exact ih _ h.2 o' ho'
      · cases h
    · cases h

theorem crun_sound {C : Cfg U} (hs : SumAt C w0) {ops : Array Oper} {Q : Exit → Act → World → Prop} : ∀ (f : Nat) (asm : List (Nat × Bool)) (l : List Oper) (s s' : ASt U) (cs : List Prop), crun C n ops f asm l s = some (cs, s') → conj cs →
    ∀ (ρ : Nat → Option (Nat × Value)) (a : Act) (w : World), RR C.E n N w0 ρ s a w → ∀ (K : Act → World → Prop), (∀ ρ' a' w', RR C.E n N w0 ρ' s' a' w' → K a' w') → wpl C.P ops Q l K a w := by
  intro f
  induction f with
  | zero => intro asm l s s' cs h; cases h
  | succ f ih =>
    intro asm l s s' cs h hc ρ a w hR K hK
    unfold crun at h
    split at h
    · simp only [Option.some.injEq, Prod.mk.injEq] at h
      obtain ⟨rfl, rfl⟩ := h
      exact hK ρ a w hR
    · rename_i o rest
      split at h
      · rename_i hg
        split at h
        · rename_i cs1 s1 hs1
          split at h
          · rename_i cs2 s2 hs2
            simp only [Option.some.injEq, Prod.mk.injEq] at h
            obtain ⟨rfl, rfl⟩ := h
            rw [conj_append] at hc
            unfold wpl
            rw [if_pos (guard_run hR hg)]
            exact step_sound hs hR hs1 hc.1 (fun ρ' a' w' hR' => ih _ _ _ _ _ hs2 hc.2 ρ' a' w' hR' K hK)
          · cases h
        · cases h
      · rename_i hg
        obtain ⟨hd, h⟩ := cond_some h
        unfold wpl
        rw [if_neg (by rw [guard_skip hR hg]; simp)]
        exact ih _ _ _ _ _ h hc ρ _ w (hR.put o.dst (dstOk_lt hd) (.raw _)) K hK
      · rename_i d b want hg
        split at h
        · rename_i sg pk rest' hsp
          obtain ⟨hl, x0, y0, hpk0⟩ := splitPick_spec hsp
          split at h
          · rename_i cc x y hgp hpk
            rw [hpk0] at hpk
            simp only [Op.pick.injEq] at hpk
            obtain ⟨rfl, rfl, rfl⟩ := hpk
            obtain ⟨hcnd, h⟩ := cond_some h
            simp only [Bool.and_eq_true] at hcnd
            obtain ⟨⟨⟨hpure, hskip⟩, hdpk⟩, hdn⟩ := hcnd
            have hdn : d < n := Nat.le_of_ble_eq_true hdn
            split at h
            · rename_i cs1 s1 hs1
              split at h
              · rename_i v hv
                split at h
                · rename_i cs2 s2 hs2
                  simp only [Option.some.injEq, Prod.mk.injEq] at h
                  obtain ⟨rfl, rfl⟩ := h
                  rw [conj_append] at hc
                  obtain ⟨g, hog, hdg, hsd⟩ := guard_branch hg
                  rw [hl]
                  refine wpl_append sg (pk :: rest') ?_
                  have hrel := hR.tmps d
                  rw [hsd] at hrel
                  have had := bool_of_rel hrel
                  -- what follows, from a state that is cleared, with the pick's value
                  have fin : ∀ ρ' a' w', RR C.E n N w0 ρ' (clearAll s sg) a' w' → a'.tmps.getD d undef = .bool b → Rel C.E w' ρ' (Stab N ρ' w') v (if b = true then a'.eval x0 else a'.eval y0) →
                      Region.wanted pk (yielded ops a'.tmps) = true → wpl C.P ops Q (pk :: rest') K a' w' := fun ρ' a' w' hR' hb hv' hw => by
                    unfold wpl
                    rw [if_pos hw]
                    refine wp_value (u := if b = true then a'.eval x0 else a'.eval y0) (w' := w') ?_ (ih _ _ _ _ _ hs2 hc.2 ρ' _ w' (hR'.put pk.dst (dstOk_lt hdpk) hv') K hK)
                    have he : a'.eval (.tmp d) = .bool b := hb
                    simp [execOp, hpk0, he, asBool]
                  have hpkw : ∀ ρ' a' w', RR C.E n N w0 ρ' (clearAll s sg) a' w' → Region.wanted pk (yielded ops a'.tmps) = true := fun ρ' a' w' hR' => by
                    exact guard_run (s := clearAll s sg) (asm := asm) hR' hgp
                  by_cases hbw : b = want
                  · subst hbw
                    have hR1 : RR C.E n N w0 ρ (s.set d (.bool b)) a w := by
                      refine hR.weaken rfl (fun t => .inr ?_)
                      show cond (Nat.beq t d) (.bool b) (s.tmps t) = s.tmps t
                      by_cases ht : t = d
                      · subst ht
                        rw [Nat.beq_refl, hsd]
                        rfl
                      · rw [nbeq ht]
                        rfl
                    refine ih _ _ _ _ _ hs1 (guarded_conj hc.1 rfl) ρ a w hR1 _ (fun ρ' a' w' hR' => ?_)
                    obtain ⟨ho, ht⟩ := crun_frame f _ _ _ _ _ hs1 hpure
                    have hset : (s.set d (.bool b)).tmps d = .bool b := by
                      show cond (Nat.beq d d) _ _ = _
                      rw [Nat.beq_refl]
                      rfl
                    have hd1 : s1.tmps d = .bool b := by
                      rw [ht d (skipOk_ne sg [] hskip), hset]
                    have hRc : RR C.E n N w0 ρ' (clearAll s sg) a' w' := by
                      refine hR'.weaken ((clearAll_objs sg s).trans ho.symm) (fun t => ?_)
                      rcases clearAll_tmps sg s t with ⟨_, h2⟩ | ⟨h1, h2⟩
                      · exact .inl h2
                      · refine .inr ?_
                        rw [h2, ht t h1]
                        show s.tmps t = cond (Nat.beq t d) (.bool b) (s.tmps t)
                        by_cases ht : t = d
                        · subst ht
                          rw [Nat.beq_refl, hsd]
                          rfl
                        · rw [nbeq ht]
                          rfl
                    have had' : a'.tmps.getD d undef = .bool b := by
                      have := hR'.tmps d
                      rw [hd1] at this
                      exact bool_of_rel this
                    refine fin ρ' a' w' hRc had' ?_ (hpkw ρ' a' w' hRc)
                    -- the value: what the part computed
                    unfold mergeVal at hv
                    split at hv
                    · rename_i p q hvp hvq
                      have hx1 := hR'.eval (cond b x0 y0)
                      rw [hvp] at hx1
                      cases b with
                      | true =>
                        simp only [cond_true] at hx1 hv
                        split at hv <;> (obtain rfl := Option.some.inj hv; simpa using hx1)
                      | false =>
                        simp only [cond_false] at hx1 hv
                        split at hv <;> (obtain rfl := Option.some.inj hv; simpa using hx1)
                    · cases hv
                  · refine skip_sound hbw sg [] s a hR had (fun t ht => by cases ht) hskip (fun a' hR' hd' => ?_)
                    refine fin ρ a' w hR' hd' ?_ (hpkw ρ a' w hR')
                    unfold mergeVal at hv
                    split at hv
                    · rename_i p q hvp hvq
                      have hx1 := hR'.eval (cond want y0 x0)
                      rw [hvq] at hx1
                      cases want with
                      | true =>
                        have hb : b = false := by cases b <;> simp_all
                        subst hb
                        simp only [cond_true] at hx1 hv
                        split at hv
                        · obtain rfl := Option.some.inj hv
                          exact .bool _
                        · obtain rfl := Option.some.inj hv
                          simpa using hx1
                      | false =>
                        have hb : b = true := by cases b <;> simp_all
                        subst hb
                        simp only [cond_false] at hx1 hv
                        split at hv
                        · obtain rfl := Option.some.inj hv
                          exact .bool _
                        · obtain rfl := Option.some.inj hv
                          simpa using hx1
                    · cases hv
                · cases h
              · cases h
            · cases h
          · cases h
        · cases h
      · cases h
end
end Go.Vm
