/-
  A region that draws its order is right. Conditions: the summaries of the called functions are right.
-/
import Derived.Test.YtohecfbnmmgimaaVmQ
namespace Go.Vm
open Go.RowKit
set_option linter.unusedVariables false

section
variable {U : Univ} {n : Nat} {N : Nat → Prop} {w0 w w' : World} {ρ ρ' : Nat → Option (Nat × Value)} {s s' s0 : ASt U} {a : Act} {C : Cfg U} {ops : Array Oper}

def AL : Nat → Bool := fun _ => true

theorem SD_append (D : Nat → Bool) : ∀ (es : List (Ent U)) (k : Nat) (s : ASt U) (e : Ent U), SD D k s (es ++ [e]) = cond (D (k + es.length)) (app (SD D k s es) e) (SD D k s es) := by
  intro es
  induction es with
  | nil => intro k s e; rfl
  | cons x es ih =>
    intro k s e
    simp only [List.cons_append, SD, List.length_cons]
    rw [ih, Nat.add_assoc, Nat.add_comm 1]

theorem SD_take (es : List (Ent U)) (i : Nat) : ∀ (k : Nat) (s : ASt U), SD AL k s (es.take i) = SD (fun j => decide (j < k + i)) k s es := by
  induction es generalizing i with
  | nil => intro k s; simp [SD]
  | cons e es ih =>
    intro k s
    cases i with
    | zero =>
      rw [List.take_zero]
      exact (SD_none (e :: es) k s (fun j _ => by simp)).symm
    | succ i =>
      simp only [List.take_succ_cons, SD]
      rw [ih]
      have h1 : AL k = true := rfl
      have h2 : decide (k < k + (i + 1)) = true := by simp
      rw [h1, h2]
      have h3 : k + 1 + i = k + (i + 1) := by omega
      rw [h3]

def wantedA (ops : Array Oper) (s : ASt U) (o : Oper) : Prop :=
  o.guard = none ∨ ∃ g want d b, o.guard = some (g, want) ∧ dstAt ops g = some d ∧ s.tmps d = .bool b ∧ b = want
def notA (ops : Array Oper) (s : ASt U) (o : Oper) : Prop :=
  ∃ g want d, o.guard = some (g, want) ∧ dstAt ops g = some d ∧ ((∃ vs, s.tmps d = .raw (.tuple vs) ∧ vs.size = 0) ∨ ∃ b, s.tmps d = .bool b ∧ b ≠ want)

theorem wantedA_sound {E : Enc U} (h : RR E n N w0 ρ s a w) {o : Oper} (hw : wantedA ops s o) : Region.wanted o (yielded ops a.tmps) = true := by
  unfold Region.wanted
  rcases hw with hn | ⟨g, want, d, b, hg, hd, hb, rfl⟩
  · rw [hn]
  · rw [hg]
    simp [yielded_bool h hd hb]

theorem notA_sound {E : Enc U} (h : RR E n N w0 ρ s a w) {o : Oper} (hw : notA ops s o) : Region.wanted o (yielded ops a.tmps) = false := by
  unfold Region.wanted
  obtain ⟨g, want, d, hg, hd, hb⟩ := hw
  rw [hg]
  rcases hb with ⟨vs, hv, hz⟩ | ⟨b, hb, hne⟩
  · have h1 := h.tmps d
    rw [hv] at h1
    have hy : yielded ops a.tmps g = none := by
      generalize hq : a.tmps.getD d undef = v at h1
      cases h1
      unfold yielded
      unfold dstAt at hd
      rw [hd]
      simp only [Option.bind_some]
      cases hz : a.tmps[d]? with
      | none => rfl
      | some v =>
        have : v = .tuple vs := by simpa [hz] using hq
        rw [this]
    simp [hy]
  · simp [yielded_bool h hd hb, hne]

/-- What the abstract run noted of operation i. -/
def EntOK (C : Cfg U) (n : Nat) (ops : Array Oper) (s0 : ASt U) (es : List (Ent U)) (i : Nat) : Prop :=
  ∀ h : i < es.length, ∃ o, ops[i]? = some o ∧ dstOk n o = true ∧ es[i].dst = o.dst ∧ es[i].looks = looksOf ops o ∧
    ((∃ cs, wantedA ops (SD AL 0 s0 (es.take i)) o ∧ aop C o (SD AL 0 s0 (es.take i)).eval (lookR es[i].ids (SD AL 0 s0 (es.take i)).objs) = some (cs, es[i].v, es[i].ob) ∧ conj cs ∧ ∀ d, o.dst = some d → d ∈ es[i].ids) ∨
      (notA ops (SD AL 0 s0 (es.take i)) o ∧ es[i].v = .raw undef ∧ es[i].ob = none))

theorem both_spec {cs : List Prop} {p : Prop} (h : both cs p) : conj cs ∧ p := by
  cases cs with
  | nil => exact ⟨trivial, h⟩
  | cons c cs => exact h

theorem EntOK_append {es : List (Ent U)} {e : Ent U} {i : Nat} (hi : i < es.length) (h : EntOK C n ops s0 es i) : EntOK C n ops s0 (es ++ [e]) i := by
  intro _
  have e1 : (es ++ [e])[i]'(by simp; omega) = es[i] := List.getElem_append_left hi
  have e2 : (es ++ [e]).take i = es.take i := by rw [List.take_append_of_le_length (by omega)]
  rw [e2]
  simp only [e1]
  exact h hi

theorem xdraw_sound : ∀ (r : List Oper) (es : List (Ent U)) (s : ASt U) (K : List (Ent U) → ASt U → Prop), (∀ j, r[j]? = ops[es.length + j]?) → s = SD AL 0 s0 es → (∀ i, i < es.length → EntOK C n ops s0 es i) → xdraw C n ops r es s K →
    ∃ es', es'.length = es.length + r.length ∧ (∀ i, i < es'.length → EntOK C n ops s0 es' i) ∧ K es' (SD AL 0 s0 es') := by
  intro r
  induction r with
  | nil =>
    intro es s K hr hs hes hx
    exact ⟨es, by simp, hes, by rw [← hs]; exact hx⟩
  | cons o r ih =>
    intro es s K hr hs hes hx
    have ho : ops[es.length]? = some o := by simpa using (hr 0).symm
    have hr' : ∀ (e : Ent U) j, r[j]? = ops[(es ++ [e]).length + j]? := fun e j => by
      have := hr (j + 1)
      simpa [Nat.add_assoc, Nat.add_comm 1 j] using this
    have go : ∀ (e : Ent U) (s' : ASt U), s' = app s e → (∃ o, ops[es.length]? = some o ∧ dstOk n o = true ∧ e.dst = o.dst ∧ e.looks = looksOf ops o ∧
        ((∃ cs, wantedA ops s o ∧ aop C o s.eval (lookR e.ids s.objs) = some (cs, e.v, e.ob) ∧ conj cs ∧ ∀ d, o.dst = some d → d ∈ e.ids) ∨ (notA ops s o ∧ e.v = .raw undef ∧ e.ob = none))) →
        xdraw C n ops r (es ++ [e]) s' K → ∃ es', es'.length = es.length + (o :: r).length ∧ (∀ i, i < es'.length → EntOK C n ops s0 es' i) ∧ K es' (SD AL 0 s0 es') := fun e s' hs' hok hx' => by
      obtain ⟨es', h1, h2, h3⟩ := ih (es ++ [e]) s' K (hr' e) (by rw [SD_append]; show s' = app (SD AL 0 s0 es) e; rw [hs', hs]) (fun i hi => by
        by_cases hc : i < es.length
        · exact EntOK_append hc (hes i hc)
        · have : i = es.length := by simp at hi; omega
          subst this
          intro _
          have e1 : (es ++ [e])[es.length]'(by simp) = e := by simp
          have e2 : (es ++ [e]).take es.length = es := by simp
          rw [e2]
          simp only [e1]
          rw [← hs]
          exact hok) hx'
      exact ⟨es', by rw [h1]; simp; omega, h2, h3⟩
    unfold xdraw at hx
    have hdo : dstOk n o = true := by
      cases hd : dstOk n o
      · rw [hd] at hx; exact hx.elim
      · rfl
    rw [hdo] at hx
    simp only [cond_true] at hx
    have hrun : wantedA ops s o → (match aop C o s.eval (lookR (idsOf o s) s.objs) with
      | some (cs, v, ob) => both cs (xdraw C n ops r (es ++ [⟨o.dst, v, ob, looksOf ops o, idsOf o s⟩]) ((s.putObj ob).put o.dst v) K)
      | none => False) → ∃ es', es'.length = es.length + (o :: r).length ∧ (∀ i, i < es'.length → EntOK C n ops s0 es' i) ∧ K es' (SD AL 0 s0 es') := fun hw hx => by
      split at hx
      · rename_i cs v ob hop
        obtain ⟨hc, hx⟩ := both_spec hx
        refine go ⟨o.dst, v, ob, looksOf ops o, idsOf o s⟩ _ rfl ⟨o, ho, hdo, rfl, rfl, .inl ⟨cs, hw, hop, hc, fun d hd => ?_⟩⟩ hx
        simp [idsOf, hd]
      · exact hx.elim
    have hskip : notA ops s o → xdraw C n ops r (es ++ [⟨o.dst, .raw undef, none, looksOf ops o, []⟩]) (s.put o.dst (.raw undef)) K → ∃ es', es'.length = es.length + (o :: r).length ∧ (∀ i, i < es'.length → EntOK C n ops s0 es' i) ∧ K es' (SD AL 0 s0 es') := fun hw hx =>
      go ⟨o.dst, .raw undef, none, looksOf ops o, []⟩ _ rfl ⟨o, ho, hdo, rfl, rfl, .inr ⟨hw, rfl, rfl⟩⟩ hx
    split at hx
    · rename_i hn
      exact hrun (.inl hn) hx
    · rename_i g want hg
      split at hx
      · exact hx.elim
      · rename_i d hd
        split at hx
        · rename_i vs hv
          cases hz : Nat.beq vs.size 0 with
          | false => rw [hz] at hx; exact hx.elim
          | true =>
            rw [hz] at hx
            exact hskip ⟨g, want, d, hg, hd, .inl ⟨vs, hv, Nat.eq_of_beq_eq_true hz⟩⟩ hx
        · rename_i b hb
          have e : s.set d (.bool b) = s := by
            have : (s.set d (.bool b)).tmps = s.tmps := funext fun t => by
              show cond (Nat.beq t d) (.bool b) (s.tmps t) = s.tmps t
              by_cases ht : t = d
              · subst ht
                rw [Nat.beq_refl]
                exact hb.symm
              · rw [nbeq ht]
                rfl
            exact congrArg (ASt.mk · s.objs) this
          cases b <;> cases want
          · simp only [cond_false, e] at hx
            exact hrun (.inr ⟨g, false, d, false, hg, hd, hb, rfl⟩) hx
          · simp only [cond_true, e] at hx
            exact hskip ⟨g, true, d, hg, hd, .inr ⟨false, hb, by simp⟩⟩ hx
          · simp only [cond_false, e] at hx
            exact hskip ⟨g, false, d, hg, hd, .inr ⟨true, hb, by simp⟩⟩ hx
          · simp only [cond_true, e] at hx
            exact hrun (.inr ⟨g, true, d, true, hg, hd, hb, rfl⟩) hx
        · exact hx.elim

/-! ### The check -/

theorem chkOne_spec {o : Oper} {e : Ent U} : ∀ (xs : List (Ent U)) (i : Nat), chkOne o e i xs = true → ∀ j (h : j < xs.length), waits o (i + j) = true ∨ apart2 xs[j] e = true := by
  intro xs
  induction xs with
  | nil => intro i _ j h; simp at h
  | cons x xs ih =>
    intro i h j hj
    simp only [chkOne, Bool.and_eq_true, Bool.or_eq_true] at h
    cases j with
    | zero => simpa using h.1
    | succ j =>
      have := ih (i + 1) h.2 j (by simpa using hj)
      rw [Nat.add_assoc, Nat.add_comm 1 j] at this
      exact this

theorem chkAll_spec : ∀ (os : List Oper) (done es : List (Ent U)), chkAll os done es = true → os.length = es.length → ∀ j (hj : j < os.length) (hj' : j < es.length),
    (∀ ed ∈ os[j].after.toList, Region.binds .any ed = true → ed.on < done.length + j) ∧ ∀ i (hi : i < done.length + j), waits os[j] i = true ∨ apart2 ((done ++ es)[i]'(by simp; omega)) es[j] = true := by
  intro os
  induction os with
  | nil => intro done es _ _ j hj; simp at hj
  | cons o os ih =>
    intro done es h hlen j hj hj'
    cases es with
    | nil => simp at hj'
    | cons e es =>
      simp only [chkAll, Bool.and_eq_true] at h
      obtain ⟨⟨h1, h2⟩, h3⟩ := h
      cases j with
      | zero =>
        refine ⟨fun ed hed hb => ?_, fun i hi => ?_⟩
        · have := List.all_eq_true.1 h1 ed hed
          rw [hb] at this
          simp only [Bool.not_true, Bool.false_or] at this
          exact Nat.le_of_ble_eq_true this
        · have hi' : i < done.length := by simpa using hi
          have := chkOne_spec done 0 h2 i hi'
          rw [Nat.zero_add] at this
          simpa [List.getElem_append_left hi'] using this
      | succ j =>
        have := ih (done ++ [e]) es h3 (by simpa using hlen) j (by simpa using hj) (by simpa using hj')
        have hl : (done ++ [e]).length + j = done.length + (j + 1) := by simp; omega
        refine ⟨fun ed hed hb => by rw [← hl]; exact this.1 ed hed hb, fun i hi => ?_⟩
        have := this.2 i (by rw [hl]; exact hi)
        simpa using this
end
end Go.Vm
