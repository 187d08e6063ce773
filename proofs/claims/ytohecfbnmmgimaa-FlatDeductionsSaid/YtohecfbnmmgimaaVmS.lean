/-
  A region that draws its order is right, whatever order is drawn. Conditions: the summaries of the called functions are right; the program allows every order.
-/
import Derived.Test.YtohecfbnmmgimaaVmR
namespace Go.Vm
open Go.RowKit
set_option linter.unusedVariables false

section
variable {U : Univ} {n : Nat} {N : Nat → Prop} {w0 w w' : World} {ρ ρ' : Nat → Option (Nat × Value)} {s s' s0 : ASt U} {a : Act} {C : Cfg U} {ops : Array Oper}

theorem lookR_congr {ids : List Nat} {f g : Nat → Option (AObj U)} (h : ∀ id ∈ ids, f id = g id) : lookR ids f = lookR ids g := by
  funext id
  unfold lookR
  cases hc : ids.any (Nat.beq id) with
  | false => rfl
  | true =>
    obtain ⟨j, hj, hb⟩ := List.any_eq_true.1 hc
    obtain rfl := Nat.eq_of_beq_eq_true hb
    exact h _ hj

theorem aop_congr {o : Oper} {ev ev' : Operand → AVal U} {look : Nat → Option (AObj U)} (h : ∀ x ∈ o.op.operands, ev x = ev' x) : aop C o ev look = aop C o ev' look := by
  have pairs : ∀ ps : Array (Nat × Operand), (∀ x ∈ (ps.toList.map (·.2)).toArray, ev x = ev' x) → (ps.toList.map fun p => (p.1, ev p.2)) = (ps.toList.map fun p => (p.1, ev' p.2)) := fun ps hp =>
    List.map_congr_left fun p hm => by
      rw [hp p.2 (by simp only [List.mem_toArray, List.mem_map]; exact ⟨p, hm, rfl⟩)]
  obtain ⟨dst, op, ty, pos, after, guard⟩ := o
  unfold aop
  cases op <;> simp only [Op.operands] at h <;> (try rfl)
  case move x => simp only [h x (by simp)]
  case assign x => simp only [h x (by simp)]
  case pick c x y => simp only [h c (by simp), h x (by simp), h y (by simp)]
  case box t x => simp only [h x (by simp)]
  case build t ps => simp only [pairs ps h]
  case buildSlice t m ps => simp only [pairs ps h]
  case load t x => simp only [h x (by simp)]
  case store t x y => simp only [h x (by simp), h y (by simp)]
  case binOp op t x y t' => simp only [h x (by simp), h y (by simp)]
  case unOp op t x => simp only [h x (by simp)]
  case fieldAddr t x f => simp only [h x (by simp)]
  case field t x f => simp only [h x (by simp)]
  case indexAddr t x y => simp only [h x (by simp), h y (by simp)]
  case index t x y => simp only [h x (by simp), h y (by simp)]
  case extract x i => simp only [h x (by simp)]
  case slice t x lo hi mx =>
    cases mx with
    | some m => rfl
    | none => cases lo <;> cases hi <;> simp_all
  case call c =>
    obtain ⟨callee, args, argTypes⟩ := c
    have hargs : ∀ x ∈ args.toList, ev x = ev' x := fun x hx => h x (by simp [Call.operands]; exact .inr (by simpa using hx))
    have hmap : args.toList.map ev = args.toList.map ev' := List.map_congr_left hargs
    simp only [hmap]
    cases callee with
    | value f => cases f <;> rfl
    | invoke r m => rfl
    | builtin b =>
      cases b <;> (try rfl)
      case len =>
        simp only
        split
        · rename_i x t hx ht
          rw [hargs x (by rw [hx]; simp)]
        · rfl
      case append =>
        simp only
        split
        · rename_i d x y hx
          rw [hargs x (by rw [hx]; simp), hargs y (by rw [hx]; simp)]
        · rfl

/-- What the check says of each pair. -/
structure Meets (ops : Array Oper) (es : List (Ent U)) : Prop where
  len : es.length = ops.size
  pre : ∀ j o, ops[j]? = some o → ∀ ed ∈ o.after, Region.binds .any ed = true → ed.on < j
  pair : ∀ i j (hi : i < es.length) (hj : j < es.length) o, i < j → ops[j]? = some o → waits o i = true ∨ apart2 es[i] es[j] = true

theorem meets_of {es : List (Ent U)} (h : chkAll ops.toList [] es = true) (hl : es.length = ops.size) : Meets ops es := by
  have h1 := chkAll_spec ops.toList [] es h (by simp [hl])
  refine ⟨hl, fun j o ho ed hed hb => ?_, fun i j hi hj o hij ho => ?_⟩
  · have hj : j < ops.size := (Array.getElem?_eq_some_iff.1 ho).1
    have hoj := (Array.getElem?_eq_some_iff.1 ho).2
    have := (h1 j (by simpa using hj) (by omega)).1 ed (by
      simp only [Array.getElem_toList, hoj]
      simpa using hed) hb
    simpa using this
  · have hj' : j < ops.size := by omega
    have hoj := (Array.getElem?_eq_some_iff.1 ho).2
    have := (h1 j (by simpa using hj') hj).2 i (by simpa using hij)
    simp only [Array.getElem_toList, hoj] at this
    simpa using this

theorem waits_spec {o : Oper} {i : Nat} (h : waits o i = true) : ∃ ed ∈ o.after, Region.binds .any ed = true ∧ ed.on = i := by
  obtain ⟨ed, hed, hb⟩ := List.any_eq_true.1 h
  simp only [Bool.and_eq_true] at hb
  exact ⟨ed, by simpa using hed, hb.1, Nat.eq_of_beq_eq_true hb.2⟩

def Closed (ops : Array Oper) (D : Nat → Bool) : Prop := ∀ j o, ops[j]? = some o → D j = true → ∀ ed ∈ o.after, Region.binds .any ed = true → D ed.on = true

theorem any_beq_mem {l : List Nat} {d : Nat} : l.any (Nat.beq d) = true ↔ d ∈ l := by
  rw [List.any_eq_true]
  constructor
  · rintro ⟨x, hx, hb⟩
    obtain rfl := Nat.eq_of_beq_eq_true hb
    exact hx
  · intro h
    exact ⟨d, h, Nat.beq_refl d⟩

theorem later_not {es : List (Ent U)} (hm : Meets ops es) {D : Nat → Bool} (hcl : Closed ops D) {i : Nat} (hun : D i = false) {j : Nat} (hj : j < es.length) (hw : ∀ oj, ops[j]? = some oj → waits oj i = true) : D j = false := by
  have hjs : j < ops.size := by rw [← hm.len]; exact hj
  have hoj : ops[j]? = some ops[j] := Array.getElem?_eq_getElem hjs
  obtain ⟨ed, hed, hb, he⟩ := waits_spec (hw _ hoj)
  cases hD : D j with
  | false => rfl
  | true =>
    have := hcl j _ hoj hD ed hed hb
    rw [he, hun] at this
    cases this

theorem countP_one {i : Nat} {f g : Nat → Bool} : ∀ (m : Nat), i < m → f i = true → g i = false → (∀ k, k < m → k ≠ i → g k = f k) → (List.range m).countP g + 1 = (List.range m).countP f := by
  intro m
  induction m with
  | zero => intro h; omega
  | succ m ih =>
    intro hi hf hg h
    rw [List.range_succ, List.countP_append, List.countP_append]
    by_cases hm : m = i
    · subst hm
      have e : (List.range m).countP g = (List.range m).countP f := List.countP_congr (fun k hk => by
        have hk' : k < m := by simpa using hk
        rw [h k (by omega) (by omega)])
      simp [e, hf, hg]
    · have := ih (by omega) hf hg (fun k hk hne => h k (by omega) hne)
      have e := h m (by omega) hm
      simp only [List.countP_cons, List.countP_nil, e]
      omega

section
variable {es : List (Ent U)} (hm : Meets ops es) {D : Nat → Bool} (hcl : Closed ops D) {i : Nat} (hi : i < es.length) (hun : D i = false) {o : Oper} (ho : ops[i]? = some o)
  (hpre : ∀ ed ∈ o.after, Region.binds .any ed = true → D ed.on = true)
include hm hcl hun ho hpre

theorem SD_looks {t : Nat} (ht : t ∈ es[i].looks) : (SD D 0 s0 es).tmps t = (SD AL 0 s0 (es.take i)).tmps t := by
  rw [SD_take]
  refine SD_tmps_congr es 0 s0 s0 rfl (fun k hk hd => ?_)
  simp only [Nat.zero_add]
  rcases Nat.lt_trichotomy k i with hlt | rfl | hgt
  · have e : decide (k < i) = true := by simpa using hlt
    rw [e]
    rcases hm.pair k i hk hi o hlt ho with hw | hap
    · obtain ⟨ed, hed, hb, he⟩ := waits_spec hw
      rw [← he]
      exact hpre ed hed hb
    · simp only [apart2, hd, Bool.and_eq_true, Bool.not_eq_true'] at hap
      have := hap.1.1.1.1
      rw [any_beq_mem.2 ht] at this
      cases this
  · have e : decide (k < k) = false := by simp
    rw [e, hun]
  · have e : decide (k < i) = false := by simp; omega
    rw [e]
    refine later_not hm hcl hun hk (fun oj hoj => ?_)
    rcases hm.pair i k hi hk oj hgt hoj with hw | hap
    · exact hw
    · simp only [apart2, hd, Bool.and_eq_true, Bool.not_eq_true'] at hap
      have := hap.1.1.2
      rw [any_beq_mem.2 ht] at this
      cases this

theorem SD_ids {id : Nat} (ht : id ∈ es[i].ids) : (SD D 0 s0 es).objs id = (SD AL 0 s0 (es.take i)).objs id := by
  rw [SD_take]
  refine SD_objs_congr es 0 s0 s0 rfl (fun k hk hd => ?_)
  simp only [Nat.zero_add]
  have hob : ∃ x, es[k].ob = some (id, x) := by
    unfold wid at hd
    cases hob : es[k].ob with
    | none => rw [hob] at hd; cases hd
    | some p =>
      rw [hob] at hd
      obtain ⟨j, x⟩ := p
      simp only [Option.map_some, Option.some.injEq] at hd
      subst hd
      exact ⟨x, rfl⟩
  obtain ⟨x, hob⟩ := hob
  rcases Nat.lt_trichotomy k i with hlt | rfl | hgt
  · have e : decide (k < i) = true := by simpa using hlt
    rw [e]
    rcases hm.pair k i hk hi o hlt ho with hw | hap
    · obtain ⟨ed, hed, hb, he⟩ := waits_spec hw
      rw [← he]
      exact hpre ed hed hb
    · simp only [apart2, hob, Bool.and_eq_true, Bool.not_eq_true'] at hap
      have := hap.1.2.1
      rw [any_beq_mem.2 ht] at this
      cases this
  · have e : decide (k < k) = false := by simp
    rw [e, hun]
  · have e : decide (k < i) = false := by simp; omega
    rw [e]
    refine later_not hm hcl hun hk (fun oj hoj => ?_)
    rcases hm.pair i k hi hk oj hgt hoj with hw | hap
    · exact hw
    · simp only [apart2, hob, Bool.and_eq_true, Bool.not_eq_true'] at hap
      have := hap.2
      rw [any_beq_mem.2 ht] at this
      cases this

end

theorem SD_step {es : List (Ent U)} (hm : Meets ops es) {D : Nat → Bool} (hcl : Closed ops D) {i : Nat} (hi : i < es.length) (hun : D i = false) {D' : Nat → Bool} (hD' : ∀ k, k < es.length → D' k = (D k || decide (k = i))) : app (SD D 0 s0 es) es[i] = SD D' 0 s0 es := by
  have hD'i : D' i = true := by rw [hD' i hi]; simp
  refine ASt.ext' (fun t => ?_) (fun id => ?_)
  · rw [app_tmps]
    by_cases hd : es[i].dst = some t
    · rw [if_pos hd]
      refine (SD_tmps_last es 0 s0 i hi (by rw [Nat.zero_add]; exact hD'i) hd (fun j hj hij hdj => ?_)).symm
      rw [Nat.zero_add, hD' j hj]
      have hne : ¬ j = i := by omega
      simp only [hne, decide_false, Bool.or_false]
      refine later_not hm hcl hun hj (fun oj hoj => ?_)
      rcases hm.pair i j hi hj oj hij hoj with hw | hap
      · exact hw
      · simp only [apart2, hd, hdj, Bool.and_eq_true, Bool.not_eq_true'] at hap
        have := hap.1.1.1.2
        rw [Nat.beq_refl] at this
        cases this
    · rw [if_neg hd]
      refine SD_tmps_congr es 0 s0 s0 rfl (fun k hk hdk => ?_)
      rw [Nat.zero_add, hD' k hk]
      have hne : ¬ k = i := fun e => by subst e; exact hd hdk
      simp [hne]
  · rw [app_objs]
    by_cases hd : wid es[i] = some id
    · rw [if_pos hd]
      refine (SD_objs_last es 0 s0 i hi (by rw [Nat.zero_add]; exact hD'i) hd (fun j hj hij hdj => ?_)).symm
      rw [Nat.zero_add, hD' j hj]
      have hne : ¬ j = i := by omega
      simp only [hne, decide_false, Bool.or_false]
      refine later_not hm hcl hun hj (fun oj hoj => ?_)
      rcases hm.pair i j hi hj oj hij hoj with hw | hap
      · exact hw
      · exfalso
        unfold wid at hd hdj
        cases hob : es[i].ob with
        | none => rw [hob] at hd; cases hd
        | some p =>
          cases hob' : es[j].ob with
          | none => rw [hob'] at hdj; cases hdj
          | some q =>
            rw [hob] at hd
            rw [hob'] at hdj
            obtain ⟨x, _⟩ := p
            obtain ⟨y, _⟩ := q
            simp only [Option.map_some, Option.some.injEq] at hd hdj
            subst hd
            subst hdj
            simp only [apart2, hob, hob', Bool.and_eq_true, Bool.not_eq_true'] at hap
            have := hap.1.2.2
            rw [Nat.beq_refl] at this
            cases this
    · rw [if_neg hd]
      refine SD_objs_congr es 0 s0 s0 rfl (fun k hk hdk => ?_)
      rw [Nat.zero_add, hD' k hk]
      have hne : ¬ k = i := fun e => by subst e; exact hd hdk
      simp [hne]

theorem mem_looks {o : Oper} {x : Operand} (hx : x ∈ o.op.operands) {t : Nat} (ht : x = .tmp t) : t ∈ looksOf ops o := by
  unfold looksOf
  refine List.mem_append.2 (.inl (List.mem_filterMap.2 ⟨x, by simpa using hx, by rw [ht]⟩))

theorem guard_looks {o : Oper} {g d : Nat} {want : Bool} (hg : o.guard = some (g, want)) (hd : dstAt ops g = some d) : d ∈ looksOf ops o := by
  unfold looksOf
  rw [hg]
  simp [hd]

theorem any_sound (hs : SumAt C w0) {es : List (Ent U)} (hm : Meets ops es) (hes : ∀ i, i < es.length → EntOK C n ops s0 es i) {Q : Exit → Act → World → Prop}
    (hK : ∀ ρ a w, RR C.E n N w0 ρ (SD AL 0 s0 es) a w → Q .normal a w) :
    ∀ (fuel : Nat) (listed : Array Bool) (ρ : Nat → Option (Nat × Value)) (a : Act) (w : World), listed.size = ops.size → ((List.range ops.size).countP fun k => !listed.getD k true) ≤ fuel → Closed ops (fun k => listed.getD k true) →
      RR C.E n N w0 ρ (SD (fun k => listed.getD k true) 0 s0 es) a w → wpAny C.P .any ops Q fuel listed a w := by
  have done : ∀ (listed : Array Bool), (∀ k, k < ops.size → listed.getD k true = true) → SD (fun k => listed.getD k true) 0 s0 es = SD AL 0 s0 es := fun listed h => by
    refine ASt.ext' (fun t => SD_tmps_congr es 0 s0 s0 rfl (fun k hk _ => ?_)) (fun id => SD_objs_congr es 0 s0 s0 rfl (fun k hk _ => ?_))
    · rw [Nat.zero_add]; exact h k (by rw [← hm.len]; exact hk)
    · rw [Nat.zero_add]; exact h k (by rw [← hm.len]; exact hk)
  have ready_nil : ∀ (listed : Array Bool), listed.size = ops.size → Region.ready .any ops listed = [] → ∀ k, k < ops.size → listed.getD k true = true := fun listed hsz hr k => by
    induction k using Nat.strongRecOn with
    | _ k ih =>
      intro hk
      cases hc : listed.getD k true with
      | true => rfl
      | false =>
        have hok : ops[k]? = some ops[k] := Array.getElem?_eq_getElem hk
        have : k ∈ Region.ready .any ops listed := mem_ready.2 ⟨hc, ops[k], hok, fun e he hb => by
          have hlt := hm.pre k _ hok e he hb
          have h2 := ih e.on hlt (by omega)
          have h3 : e.on < listed.size := by omega
          simpa [h3] using h2⟩
        rw [hr] at this
        cases this
  intro fuel
  induction fuel with
  | zero =>
    intro listed ρ a w hsz hcount hcl hR
    have hall : ∀ k, k < ops.size → listed.getD k true = true := fun k hk => by
      have h0 : ((List.range ops.size).countP fun k => !listed.getD k true) = 0 := by omega
      have := List.countP_eq_zero.1 h0 k (by simpa using hk)
      simpa using this
    refine ⟨?_, hK ρ a w (by rw [← done listed hall]; exact hR)⟩
    rw [List.eq_nil_iff_forall_not_mem]
    intro k hk
    obtain ⟨h1, o, h2, _⟩ := mem_ready.1 hk
    rw [hall k (Array.getElem?_eq_some_iff.1 h2).1] at h1
    cases h1
  | succ fuel ih =>
    intro listed ρ a w hsz hcount hcl hR
    refine ⟨fun h0 => hK ρ a w (by rw [← done listed (ready_nil listed hsz h0)]; exact hR), fun i hi => ?_⟩
    obtain ⟨hun, o, ho, hpre⟩ := mem_ready.1 hi
    have his : i < ops.size := (Array.getElem?_eq_some_iff.1 ho).1
    have hie : i < es.length := by rw [hm.len]; exact his
    have hpre' : ∀ ed ∈ o.after, Region.binds .any ed = true → (fun k => listed.getD k true) ed.on = true := fun ed hed hb => by
      have := hpre ed hed hb
      have hlt := hm.pre i o ho ed hed hb
      have h3 : ed.on < listed.size := by omega
      simpa [h3] using this
    obtain ⟨o', ho', hdo, hdst, hlooks, hcase⟩ := hes i hie hie
    rw [ho] at ho'
    obtain rfl := Option.some.inj ho'
    -- the state when i is done too
    have hset : ∀ k, k < es.length → (listed.setIfInBounds i true).getD k true = (listed.getD k true || decide (k = i)) := fun k hk => by
      have hks : k < listed.size := by rw [hsz, ← hm.len]; exact hk
      by_cases hki : k = i
      · subst hki
        simp [hks]
      · rw [getD_set_ne true (Ne.symm hki)]
        simp [hki]
    have hstep := SD_step (s0 := s0) hm hcl hie hun (D' := fun k => (listed.setIfInBounds i true).getD k true) hset
    have hcl' : Closed ops (fun k => (listed.setIfInBounds i true).getD k true) := fun j oj hoj hD ed hed hb => by
      have hjs : j < ops.size := (Array.getElem?_eq_some_iff.1 hoj).1
      have hlt := hm.pre j oj hoj ed hed hb
      have h1 := hset j (by rw [hm.len]; exact hjs)
      have h2 := hset ed.on (by rw [hm.len]; omega)
      simp only at hD ⊢
      rw [h1] at hD
      rw [h2]
      simp only [Bool.or_eq_true, decide_eq_true_eq] at hD ⊢
      rcases hD with hD | rfl
      · exact .inl (hcl j oj hoj hD ed hed hb)
      · rw [ho] at hoj
        obtain rfl := Option.some.inj hoj
        exact .inl (hpre' ed hed hb)
    have hcount' : ((List.range ops.size).countP fun k => !(listed.setIfInBounds i true).getD k true) ≤ fuel := by
      have h1 := countP_one (i := i) (f := fun k => !listed.getD k true) (g := fun k => !(listed.setIfInBounds i true).getD k true) ops.size his (by simp [hun]) (by
        have := hset i hie
        simp [this]) (fun k hk hne => by
        have := hset k (by rw [hm.len]; exact hk)
        simp [this, hne])
      omega
    have hnext : ∀ ρ' a' w', RR C.E n N w0 ρ' (app (SD (fun k => listed.getD k true) 0 s0 es) es[i]) a' w' → wpAny C.P .any ops Q fuel (listed.setIfInBounds i true) a' w' := fun ρ' a' w' hR' =>
      ih _ ρ' a' w' (by simpa using hsz) hcount' hcl' (by rw [← hstep]; exact hR')
    have htm : ∀ t ∈ looksOf ops o, (SD (fun k => listed.getD k true) 0 s0 es).tmps t = (SD AL 0 s0 (es.take i)).tmps t := fun t ht => SD_looks hm hcl hie hun ho hpre' (by rw [hlooks]; exact ht)
    unfold wpOp
    simp only [ho]
    rcases hcase with ⟨cs, hw, hop, hc, hdid⟩ | ⟨hw, hv, hob⟩
    · have hw' : wantedA ops (SD (fun k => listed.getD k true) 0 s0 es) o := by
        rcases hw with hn | ⟨g, want, d, b, hg, hd, hb, he⟩
        · exact .inl hn
        · exact .inr ⟨g, want, d, b, hg, hd, by rw [htm d (guard_looks hg hd)]; exact hb, he⟩
      rw [if_pos (wantedA_sound hR hw')]
      refine .inl ?_
      have hev : ∀ x ∈ o.op.operands, (SD (fun k => listed.getD k true) 0 s0 es).eval x = (SD AL 0 s0 (es.take i)).eval x := fun x hx => by
        cases x with
        | tmp t => exact htm t (mem_looks hx rfl)
        | _ => rfl
      have hlk : lookR es[i].ids (SD (fun k => listed.getD k true) 0 s0 es).objs = lookR es[i].ids (SD AL 0 s0 (es.take i)).objs :=
        lookR_congr (fun id hid => SD_ids hm hcl hie hun ho hpre' hid)
      have hop' : aop C o (SD (fun k => listed.getD k true) 0 s0 es).eval (lookR es[i].ids (SD (fun k => listed.getD k true) 0 s0 es).objs) = some (cs, es[i].v, es[i].ob) := by
        rw [aop_congr hev, hlk]
        exact hop
      refine aop_sound hs hR (fun id ob h => ?_) (fun d hd h => ?_) (dstOk_lt hdo) hop' hc (fun ρ' u w' hR' => hnext ρ' _ w' ?_)
      · unfold lookR at h
        cases hc : es[i].ids.any (Nat.beq id) <;> rw [hc] at h
        · cases h
        · exact h
      · unfold lookR at h
        rw [any_beq_mem.2 (hdid d hd)] at h
        exact h
      · unfold app
        rw [hdst]
        exact hR'
    · have hw' : notA ops (SD (fun k => listed.getD k true) 0 s0 es) o := by
        obtain ⟨g, want, d, hg, hd, hb⟩ := hw
        have e := htm d (guard_looks hg hd)
        refine ⟨g, want, d, hg, hd, ?_⟩
        rcases hb with ⟨vs, hv, hz⟩ | ⟨b, hb, hne⟩
        · exact .inl ⟨vs, by rw [e]; exact hv, hz⟩
        · exact .inr ⟨b, by rw [e]; exact hb, hne⟩
      rw [if_neg (by rw [notA_sound hR hw']; simp)]
      refine hnext ρ _ w ?_
      unfold app
      rw [hdst, hv, hob]
      exact hR.put o.dst (dstOk_lt hdo) (.raw _)

theorem draw_sound (hs : SumAt C w0) (hmix : C.P.follows .mixedOrders = true) {id : Nat} {Q : Exit → Act → World → Prop} (h : RR C.E n N w0 ρ s0 a w) {K : ASt U → Prop}
    (hx : xdraw C n ops ops.toList [] s0 (fun es s' => chkAll ops.toList [] es = true ∧ K s')) (hK : ∀ s' ρ' a' w', K s' → RR C.E n N w0 ρ' s' a' w' → Q .normal a' w') : (Code.region id ops true).wp C.P Q a w := by
  obtain ⟨es, hlen, hes, hchk, hKs⟩ := xdraw_sound (s0 := s0) ops.toList [] s0 _ (fun j => by simp) rfl (fun i hi => absurd hi (by simp)) hx
  have hl : es.length = ops.size := by simpa using hlen
  refine wp_region_any hmix (any_sound (N := N) (w0 := w0) hs (meets_of hchk hl) hes (fun ρ' a' w' hR => hK _ ρ' a' w' hKs hR) ops.size (Array.replicate ops.size false) ρ a _ (by simp) ?_ ?_ ?_)
  · exact Nat.le_trans List.countP_le_length (by simp)
  · intro j o ho hD
    have hj : j < ops.size := (Array.getElem?_eq_some_iff.1 ho).1
    simp [hj] at hD
  · have : SD (fun k => (Array.replicate ops.size false).getD k true) 0 s0 es = s0 := SD_none es 0 s0 (fun i hi => by
      have : i < ops.size := by omega
      simp [this])
    rw [this]
    exact h.drew
end
end Go.Vm
