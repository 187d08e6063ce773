/-
  A region that draws its order: the abstract run in the order of the text, a check that no other order matters, and that it is right. Conditions: the summaries of the called functions are right.
-/
import Derived.Test.YtohecfbnmmgimaaVmP
namespace Go.Vm
open Go.RowKit
set_option linter.unusedVariables false

/-- What one operation did in the abstract run: its temporary and value, the block that it laid or changed, the temporaries and blocks that it looked at. -/
structure Ent (U : Univ) where
  dst : Option Tmp
  v : AVal U
  ob : Option (Nat × AObj U)
  looks : List Nat
  ids : List Nat

section
variable {U : Univ}

def app (s : ASt U) (e : Ent U) : ASt U := (s.putObj e.ob).put e.dst e.v

/-- The state when the operations of D (from number k on) have been done. -/
def SD (D : Nat → Bool) : Nat → ASt U → List (Ent U) → ASt U
  | _, s, [] => s
  | k, s, e :: es => SD D (k + 1) (cond (D k) (app s e) s) es

def wid (e : Ent U) : Option Nat := e.ob.map (·.1)

theorem put_tmps (s : ASt U) (dst : Option Tmp) (v : AVal U) (t : Nat) : (s.put dst v).tmps t = if dst = some t then v else s.tmps t := by
  cases dst with
  | none => simp [ASt.put]
  | some d =>
    show cond (Nat.beq t d) v (s.tmps t) = _
    by_cases hc : t = d
    · subst hc
      simp
    · rw [nbeq hc, if_neg (fun e => hc (Option.some.inj e).symm)]
      rfl

theorem app_tmps (s : ASt U) (e : Ent U) (t : Nat) : (app s e).tmps t = if e.dst = some t then e.v else s.tmps t := by
  unfold app
  rw [put_tmps]
  cases e.ob <;> rfl

theorem app_objs (s : ASt U) (e : Ent U) (id : Nat) : (app s e).objs id = if wid e = some id then e.ob.map (·.2) else s.objs id := by
  unfold app wid
  have h : ((s.putObj e.ob).put e.dst e.v).objs = (s.putObj e.ob).objs := by cases e.dst <;> rfl
  rw [h]
  cases e.ob with
  | none => simp [ASt.putObj]
  | some p =>
    obtain ⟨i, o⟩ := p
    show cond (Nat.beq id i) (some o) (s.objs id) = _
    by_cases hc : id = i
    · subst hc
      simp
    · rw [nbeq hc, if_neg (fun e => hc (by simpa using e.symm))]
      rfl

theorem SD_tmps_congr {D D' : Nat → Bool} {t : Nat} : ∀ (es : List (Ent U)) (k : Nat) (s s' : ASt U), s.tmps t = s'.tmps t → (∀ i (h : i < es.length), es[i].dst = some t → D (k + i) = D' (k + i)) → (SD D k s es).tmps t = (SD D' k s' es).tmps t := by
  intro es
  induction es with
  | nil => intro k s s' h _; exact h
  | cons e es ih =>
    intro k s s' h hD
    refine ih (k + 1) _ _ ?_ (fun i hi hd => by have := hD (i + 1) (by simpa using hi) (by simpa using hd); rw [Nat.add_assoc, Nat.add_comm 1 i]; exact this)
    by_cases hd : e.dst = some t
    · have := hD 0 (by simp) (by simpa using hd)
      simp only [Nat.add_zero] at this
      rw [this]
      cases D' k
      · exact h
      · simp only [cond_true, app_tmps, if_pos hd]
    · have h1 : ∀ (s : ASt U) b, (cond b (app s e) s).tmps t = s.tmps t := fun s b => by
        cases b
        · rfl
        · simp only [cond_true, app_tmps, if_neg hd]
      rw [h1, h1]
      exact h

theorem SD_objs_congr {D D' : Nat → Bool} {id : Nat} : ∀ (es : List (Ent U)) (k : Nat) (s s' : ASt U), s.objs id = s'.objs id → (∀ i (h : i < es.length), wid es[i] = some id → D (k + i) = D' (k + i)) → (SD D k s es).objs id = (SD D' k s' es).objs id := by
  intro es
  induction es with
  | nil => intro k s s' h _; exact h
  | cons e es ih =>
    intro k s s' h hD
    refine ih (k + 1) _ _ ?_ (fun i hi hd => by have := hD (i + 1) (by simpa using hi) (by simpa using hd); rw [Nat.add_assoc, Nat.add_comm 1 i]; exact this)
    by_cases hd : wid e = some id
    · have := hD 0 (by simp) (by simpa using hd)
      simp only [Nat.add_zero] at this
      rw [this]
      cases D' k
      · exact h
      · simp only [cond_true, app_objs, if_pos hd]
    · have h1 : ∀ (s : ASt U) b, (cond b (app s e) s).objs id = s.objs id := fun s b => by
        cases b
        · rfl
        · simp only [cond_true, app_objs, if_neg hd]
      rw [h1, h1]
      exact h

theorem SD_none {D : Nat → Bool} : ∀ (es : List (Ent U)) (k : Nat) (s : ASt U), (∀ i, i < es.length → D (k + i) = false) → SD D k s es = s := by
  intro es
  induction es with
  | nil => intro k s _; rfl
  | cons e es ih =>
    intro k s h
    have h0 := h 0 (by simp)
    simp only [Nat.add_zero] at h0
    simp only [SD, h0, cond_false]
    exact ih (k + 1) s (fun i hi => by have := h (i + 1) (by simpa using hi); rw [Nat.add_assoc, Nat.add_comm 1 i]; exact this)

/-- The last that writes a temporary decides. -/
theorem SD_tmps_last {D : Nat → Bool} {t : Nat} : ∀ (es : List (Ent U)) (k : Nat) (s : ASt U) (i : Nat) (hi : i < es.length), D (k + i) = true → es[i].dst = some t → (∀ j (h : j < es.length), i < j → es[j].dst = some t → D (k + j) = false) →
    (SD D k s es).tmps t = es[i].v := by
  intro es
  induction es with
  | nil => intro k s i hi; simp at hi
  | cons e es ih =>
    intro k s i hi hD hd hlast
    cases i with
    | zero =>
      simp only [Nat.add_zero] at hD
      simp only [List.getElem_cons_zero] at hd ⊢
      show (SD D (k + 1) (cond (D k) (app s e) s) es).tmps t = e.v
      rw [hD]
      have hb : (app s e).tmps t = e.v := by rw [app_tmps, if_pos hd]
      rw [← hb]
      have := SD_tmps_congr (D := D) (D' := fun _ => false) (t := t) es (k + 1) (app s e) (app s e) rfl (fun j hj hdj => by
        have := hlast (j + 1) (by simpa using hj) (by omega) (by simpa using hdj)
        rw [Nat.add_assoc, Nat.add_comm 1 j]
        exact this)
      simp only [cond_true]
      rw [this, SD_none es (k + 1) _ (fun _ _ => rfl)]
    | succ i =>
      simp only [List.getElem_cons_succ] at hd ⊢
      exact ih (k + 1) _ i (by simpa using hi) (by rw [Nat.add_assoc, Nat.add_comm 1 i]; exact hD) hd (fun j hj hij hdj => by
        have := hlast (j + 1) (by simpa using hj) (by omega) (by simpa using hdj)
        rw [Nat.add_assoc, Nat.add_comm 1 j]
        exact this)

theorem SD_objs_last {D : Nat → Bool} {id : Nat} : ∀ (es : List (Ent U)) (k : Nat) (s : ASt U) (i : Nat) (hi : i < es.length), D (k + i) = true → wid es[i] = some id → (∀ j (h : j < es.length), i < j → wid es[j] = some id → D (k + j) = false) →
    (SD D k s es).objs id = es[i].ob.map (·.2) := by
  intro es
  induction es with
  | nil => intro k s i hi; simp at hi
  | cons e es ih =>
    intro k s i hi hD hd hlast
    cases i with
    | zero =>
      simp only [Nat.add_zero] at hD
      simp only [List.getElem_cons_zero] at hd ⊢
      show (SD D (k + 1) (cond (D k) (app s e) s) es).objs id = _
      rw [hD]
      have hb : (app s e).objs id = e.ob.map (·.2) := by rw [app_objs, if_pos hd]
      rw [← hb]
      have := SD_objs_congr (D := D) (D' := fun _ => false) (id := id) es (k + 1) (app s e) (app s e) rfl (fun j hj hdj => by
        have := hlast (j + 1) (by simpa using hj) (by omega) (by simpa using hdj)
        rw [Nat.add_assoc, Nat.add_comm 1 j]
        exact this)
      simp only [cond_true]
      rw [this, SD_none es (k + 1) _ (fun _ _ => rfl)]
    | succ i =>
      simp only [List.getElem_cons_succ] at hd ⊢
      exact ih (k + 1) _ i (by simpa using hi) (by rw [Nat.add_assoc, Nat.add_comm 1 i]; exact hD) hd (fun j hj hij hdj => by
        have := hlast (j + 1) (by simpa using hj) (by omega) (by simpa using hdj)
        rw [Nat.add_assoc, Nat.add_comm 1 j]
        exact this)

theorem ASt.ext' {s s' : ASt U} (h1 : ∀ t, s.tmps t = s'.tmps t) (h2 : ∀ id, s.objs id = s'.objs id) : s = s' := by
  cases s
  cases s'
  simp only [ASt.mk.injEq]
  exact ⟨funext h1, funext h2⟩

/-- Do two operations, the first ahead of the second in the text, not meet? -/
def apart2 (x y : Ent U) : Bool :=
  (match x.dst with
    | some d => !y.looks.any (Nat.beq d) && (match y.dst with
      | some e => !Nat.beq d e
      | none => true)
    | none => true) &&
  (match y.dst with
    | some e => !x.looks.any (Nat.beq e)
    | none => true) &&
  (match x.ob with
    | some (i, _) => !y.ids.any (Nat.beq i) && (match y.ob with
      | some (j, _) => !Nat.beq i j
      | none => true)
    | none => true) &&
  (match y.ob with
    | some (j, _) => !x.ids.any (Nat.beq j)
    | none => true)

/-- Does the second wait for the first by an edge of its own? -/
def waits (o : Oper) (i : Nat) : Bool := o.after.toList.any fun e => Region.binds .any e && Nat.beq e.on i

/-- Each operation waits only for earlier ones; and for each pair: the later waits for the earlier, or they do not meet. -/
def chkOne (o : Oper) (e : Ent U) : Nat → List (Ent U) → Bool
  | _, [] => true
  | i, x :: xs => (waits o i || apart2 x e) && chkOne o e (i + 1) xs

def chkAll : List Oper → List (Ent U) → List (Ent U) → Bool
  | [], _, _ => true
  | o :: os, done, e :: es => (o.after.toList.all fun ed => !Region.binds .any ed || Nat.blt ed.on done.length) && chkOne o e 0 done && chkAll os (done ++ [e]) es
  | _ :: _, _, [] => false

def mentions : AVal U → List Nat
  | .ptr id _ => [id]
  | .eptr id _ _ _ _ => [id]
  | .osl id _ => [id]
  | .agg l => l.flatMap fun c => match c with
    | .ptr id _ => [id]
    | .eptr id _ _ _ _ => [id]
    | .osl id _ => [id]
    | _ => []
  | _ => []

def lookR (ids : List Nat) (f : Nat → Option (AObj U)) : Nat → Option (AObj U) := fun id => cond (ids.any (Nat.beq id)) (f id) none

def idsOf (o : Oper) (s : ASt U) : List Nat := o.dst.toList ++ o.op.operands.toList.flatMap fun x => mentions (s.eval x)

def looksOf (ops : Array Oper) (o : Oper) : List Nat :=
  (o.op.operands.toList.filterMap fun | .tmp t => some t | _ => none) ++ (match o.guard with
    | some (g, _) => (dstAt ops g).toList
    | none => [])

def both (cs : List Prop) (p : Prop) : Prop :=
  match cs with
  | [] => p
  | c :: cs => conj (c :: cs) ∧ p

/-- The abstract run of a region that draws its order. -/
def xdraw (C : Cfg U) (n : Nat) (ops : Array Oper) : List Oper → List (Ent U) → ASt U → (List (Ent U) → ASt U → Prop) → Prop
  | [], es, s, K => K es s
  | o :: r, es, s, K =>
    let run (s : ASt U) : Prop := match aop C o s.eval (lookR (idsOf o s) s.objs) with
      | some (cs, v, ob) => both cs (xdraw C n ops r (es ++ [⟨o.dst, v, ob, looksOf ops o, idsOf o s⟩]) ((s.putObj ob).put o.dst v) K)
      | none => False
    let skip (s : ASt U) : Prop := xdraw C n ops r (es ++ [⟨o.dst, .raw undef, none, looksOf ops o, []⟩]) (s.put o.dst (.raw undef)) K
    cond (dstOk n o) (match o.guard with
      | none => run s
      | some (g, want) => match dstAt ops g with
        | none => False
        | some d => match s.tmps d with
          | .raw (.tuple vs) => cond (Nat.beq vs.size 0) (skip s) False
          | .bool b => match b with
            | true => cond want (run (s.set d (.bool true))) (skip (s.set d (.bool true)))
            | false => cond want (skip (s.set d (.bool false))) (run (s.set d (.bool false)))
          | _ => False) False
end
end Go.Vm
