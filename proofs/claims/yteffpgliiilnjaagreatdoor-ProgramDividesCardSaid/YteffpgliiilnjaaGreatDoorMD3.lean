/- Texts of this proof, one behind another: An interpreter of the model's code over abstract values, and that it is right: part 4. Con. Conditions: none. -/
import Derived.Test.YteffpgliiilnjaaGreatDoorMD2
namespace Go.Vm
open Go.RowKit
set_option linter.unusedVariables false
def wpl (P : Program) (ops : Array Oper) (Q : Exit → Act → World → Prop) : List Oper → (Act → World → Prop) → Act → World → Prop
 | [], K, a, w => K a w
 | o :: rest, K, a, w => if Region.wanted o (yielded ops a.tmps) then o.wp P a w (wpl P ops Q rest K) Q else wpl P ops Q rest K (a.put o.dst undef) w
theorem wpl_append {P : Program} {ops : Array Oper} {Q : Exit → Act → World → Prop} : ∀ (l m : List Oper) {K : Act → World → Prop} {a : Act} {w : World}, wpl P ops Q l (wpl P ops Q m K) a w → wpl P ops Q (l ++ m) K a w
 | [], m, K, a, w, h => h
 | o :: rest, m, K, a, w, h => by
  unfold wpl at h
  show wpl P ops Q (o :: (rest ++ m)) K a w
  unfold wpl
  split
  ·rename_i hw
   rw [if_pos hw] at h
   exact Oper.wp_mono (fun a w h => wpl_append rest m h) h
  ·rename_i hw
   rw [if_neg hw] at h
   exact wpl_append rest m h
theorem wpOps_of_wpl {P : Program} {ops : Array Oper} {Q : Exit → Act → World → Prop} {a : Act} {w : World} (h : wpl P ops Q ops.toList (Q .normal) a w) : wpOps P ops Q (List.range ops.size) a w := by
 have key : ∀ (l : List Oper) (k : Nat), (∀ j, l[j]? = ops[k + j]?) → ∀ a w, wpl P ops Q l (Q .normal) a w → wpOps P ops Q (List.range' k l.length) a w := by
  intro l
  induction l with
  | nil => intro k _ a w h; exact h
  | cons o l ih =>
   intro k hk a w h
   have h0 : ops[k]? = some o := by simpa using (hk 0).symm
   simp only [List.length_cons, List.range'_succ, wpOps, h0]
   have ih' := ih (k + 1) (fun j => by have := hk (j + 1); simpa [Nat.add_assoc, Nat.add_comm 1 j] using this)
   unfold wpl at h
   split
   ·rename_i hw
    rw [if_pos hw] at h
    exact .inl (Oper.wp_mono (fun a w h => ih' a w h) h)
   ·rename_i hw
    rw [if_neg hw] at h
    exact ih' _ _ h
 have := key ops.toList 0 (fun j => by simp) a w h
 rwa [Array.length_toList, ← List.range_eq_range'] at this
section
variable {U : Univ}
def pureOp (o : Oper) : Bool :=
 match o.op with
 | .move _ | .pick _ _ _ | .build _ _ | .load _ _ | .nilCheck _ | .makeFunc _ _ _ | .binOp _ _ _ _ _ | .unOp _ _ _ | .fieldAddr _ _ _ | .field _ _ _ | .indexAddr _ _ _ | .index _ _ _ | .extract _ _ | .slice _ _ _ _ _ | .convert _ _ _ | .buildSlice _ _ _ => true
 | .call c => match c.callee with
  | .builtin .len | .builtin .min | .builtin .max => true
  | .value _ => true
  | _ => false
 | _ => false
def dstAt (ops : Array Oper) (g : Nat) : Option Tmp := (ops[g]?).bind (·.dst)
inductive GS where
 | run
 | skip
 | branch (d : Nat) (b : Bool) (want : Bool)
 | bad
def guardState (ops : Array Oper) (asm : List (Nat × Bool)) (s : ASt U) (o : Oper) : GS :=
 match o.guard with
 | none => .run
 | some (g, want) => match dstAt ops g with
  | none => .bad
  | some d => match s.look d with
   | .raw (.tuple vs) => cond (Nat.beq vs.size 0) .skip .bad
   | .bool b => cond (asm.any fun p => Nat.beq p.1 g && (p.2 == want)) (match b == want with
    | true => .run
    | false => .bad) (.branch d b want)
   | _ => .bad
def isPick (d : Nat) (o : Oper) : Bool :=
 match o.op with
 | .pick (.tmp t) _ _ => Nat.beq t d
 | _ => false
def splitPick (d : Nat) : List Oper → Option (List Oper × Oper × List Oper)
 | [] => none
 | o :: r => cond (isPick d o) (some ([], o, r)) (match splitPick d r with
    | some (l, p, r') => some (o :: l, p, r')
    | none => none)
def skipOk (ops : Array Oper) (d : Nat) (want : Bool) : List Nat → List Oper → Bool
 | _, [] => true
 | sk, o :: r => match o.guard, o.dst with
  | some (g, w'), some t => match dstAt ops g with
   | some dg => ((Nat.beq dg d && (w' == want)) || sk.any (Nat.beq dg)) && !Nat.beq t d && skipOk ops d want (t :: sk) r
   | none => false
  | _, _ => false
def clearAll (s : ASt U) : List Oper → ASt U
 | [] => s
 | o :: r => clearAll (s.put o.dst .any) r
def guarded (p : Prop) : List Prop → List Prop
 | [] => []
 | cs => [p → conj cs]
def mergeVal (b want : Bool) (x y : Operand) (va vb : AVal U) : Option (AVal U) :=
 match va, vb with
 | .bool p, .bool q => match want with
  | true => match y with
   | .const (.bool false) => some (.bool (b && p))
   | _ => some (.bool (cond b p q))
  | false => match x with
   | .const (.bool true) => some (.bool (b || p))
   | _ => some (.bool (cond b q p))
 | _, _ => none
def dstOk (n : Nat) (o : Oper) : Bool :=
 match o.dst with
 | some d => Nat.blt d n
 | none => true
def newBase (d : Nat) : Nat := 100000 + 64 * d
def stepMulti (C : Cfg U) (s : ASt U) (o : Oper) : Option (List Prop × ASt U) :=
 match o.op with
 | .call c => match c.callee with
  | .value x => match s.eval x with
   | .fn f caps => match callRes C s.objs f (c.argTypes.toList ++ List.replicate caps.length 0) (c.args.toList.map s.eval ++ caps) with
    | some (cs, r) => match o.dst with
     | some d => cond (Nat.ble 2 r.news.length && freeRows s.objs (newBase (C.off + d)) r.news.length) (some (cs, (putRows s (newBase (C.off + d)) r.news).put o.dst (r.ownAs (newBase (C.off + d) + ·)))) none
     | none => none
    | none => none
   | _ => none
  | _ => none
 | _ => none
def step (C : Cfg U) (n : Nat) (s : ASt U) (o : Oper) : Option (List Prop × ASt U) :=
 cond (dstOk n o) (match aop C o s.eval s.objs with
  | some (cs, v, ob) => some (cs, (s.putObj ob).put o.dst v)
  | none => match stepMulti C s o with
   | some r => some r
   | none => match stepDeep C s o with
    | some r => some r
    | none => match aopX C o s.eval s.objs with
     | some (cs, v, ob) => some (cs, (s.putObj ob).put o.dst v)
     | none => none) none
def Cfg.down (C : Cfg U) : Cfg U := { C with pur := true, eff := fun _ => none, sum := fun f => match C.sum f with
 | some m => some fun xs => match m xs with
  | some (cs, r) => cond r.okRes (some (cs, r.down)) none
  | none => none
 | none => none }
def crun (C : Cfg U) (n : Nat) (ops : Array Oper) : Nat → List (Nat × Bool) → List Oper → ASt U → Option (List Prop × ASt U)
 | 0, _, _, _ => none
 | f + 1, asm, l, s => match l with
  | [] => some ([], s)
  | o :: rest => match guardState ops asm s o with
   | .run => match step C n s o with
    | some (cs, s') => match crun C n ops f asm rest s' with
     | some (cs', s'') => some (cs ++ cs', s'')
     | none => none
    | none => none
   | .skip => cond (dstOk n o) (crun C n ops f asm rest (s.put o.dst (.raw undef))) none
   | .branch d b want => match splitPick d (o :: rest) with
    | some (sg, pk, rest') => match guardState ops asm (clearAll s sg) pk, pk.op with
     | .run, .pick _ x y => cond (sg.all pureOp && skipOk ops d want [] sg && dstOk n pk && Nat.blt d n)
       (match crun C.down n ops f ((match o.guard with | some p => [p] | none => []) ++ asm) sg (s.set d (.bool want)) with
        | some (cs, s1) => match mergeVal b want x y (s1.eval (cond want x y)) ((clearAll s sg).eval (cond want y x)) with
         | some v => match crun C n ops f asm rest' ((clearAll s sg).put pk.dst v) with
          | some (cs', s'') => some (guarded (b = want) cs ++ cs', s'')
          | none => none
         | none => none
        | none => none) none
     | _, _ => none
    | none => none
   | .bad => none
end
end Go.Vm
namespace Go.Vm
open Go.RowKit
set_option linter.unusedVariables false
section
variable {U : Univ} {n : Nat} {N : Nat → Prop} {w0 : Fr} {w w' : World} {ρ ρ' : Own} {s s' s1 s2 : ASt U} {a : Act}
theorem RR.weaken {E : Enc U} (h : RR E n N w0 ρ s1 a w) (ho : s2.objs = s1.objs) (ht : ∀ t, s2.tmps t = .any ∨ s2.tmps t = s1.tmps t) : RR E n N w0 ρ s2 a w := by
 refine ⟨h.defers, h.size, fun t => ?_, by rw [ho]; exact h.objs, (fun nm g u hr => by obtain ⟨ob, q1, q2⟩ := h.dom nm g u hr; exact ⟨ob, by rw [ho]; exact q1, q2⟩), h.sep, h.below, h.nlt, h.kept, h.free, fun id u hp => by rw [ho]; exact h.pin id u hp, h.nle⟩
 rcases ht t with e | e
 ·rw [e]; exact .any _
 ·rw [e]; exact h.tmps t
theorem RR.putAny {E : Enc U} (h : RR E n N w0 ρ s a w) (dst : Option Tmp) (v : Value) : RR E n N w0 ρ (s.put dst .any) (a.put dst v) w := by
 cases dst with
 | none => exact h
 | some d =>
  refine ⟨h.defers, by simpa [Act.put] using h.size, fun t => ?_, h.objs, h.dom, h.sep, h.below, h.nlt, h.kept, h.free, h.pin, h.nle⟩
  show Rel E w ρ _ (cond (Nat.beq t d) .any (s.tmps t)) (cond (Nat.blt t 1000000) ((a.tmps.setIfInBounds d v).getD t undef) (w0.hv t))
  by_cases ht : t = d
  ·subst ht
   have : Nat.beq t t = true := Nat.beq_refl t
   rw [this]
   exact .any _
  ·rw [nbeq ht]
   have h0 := h.tmps t
   have e : (a.tmps.setIfInBounds d v).getD t undef = a.tmps.getD t undef := by simp [Array.getElem?_setIfInBounds_ne (Ne.symm ht)]
   rw [e]
   exact h0
theorem bool_of_rel {E : Enc U} {st : Nat → Prop} {b : Bool} {v : Value} (h : Rel E w ρ st (.bool b) v) : v = .bool b := by cases h; rfl
theorem yielded_bool {E : Enc U} (h : RR E n N w0 ρ s a w) {ops : Array Oper} {g d : Nat} (hg : dstAt ops g = some d) {b : Bool} (hb : s.look d = .bool b) : yielded ops a.tmps g = some b := by
 have h1 := h.look d
 rw [hb] at h1
 have h2 := bool_of_rel h1
 have h3 : a.tmps[d]? = some (.bool b) := by
  cases hq : a.tmps[d]? with
  | none =>
   simp [hq] at h2
   cases h2
  | some v =>
   simp [hq] at h2
   rw [h2]
 unfold yielded
 unfold dstAt at hg
 rw [hg]
 simp [h3]
theorem guard_run {E : Enc U} (h : RR E n N w0 ρ s a w) {ops : Array Oper} {asm : List (Nat × Bool)} {o : Oper} (hg : guardState ops asm s o = .run) : Region.wanted o (yielded ops a.tmps) = true := by
 unfold guardState at hg
 unfold Region.wanted
 split at hg
 ·rename_i hn
  rw [hn]
 ·rename_i g want hn
  rw [hn]
  split at hg
  ·cases hg
  ·rename_i d hd
   split at hg
   ·rename_i vs hv
    cases hc : Nat.beq vs.size 0 <;> rw [hc] at hg <;> cases hg
   ·rename_i b hb
    cases hc : (asm.any fun p => Nat.beq p.1 g && (p.2 == want)) with
    | false => rw [hc] at hg; cases hg
    | true =>
     rw [hc] at hg
     simp only [cond_true] at hg
     split at hg
     ·rename_i hw
      simp only [yielded_bool h hd hb]
      simpa using hw
     ·cases hg
   ·cases hg
theorem guard_skip {E : Enc U} (h : RR E n N w0 ρ s a w) {ops : Array Oper} {asm : List (Nat × Bool)} {o : Oper} (hg : guardState ops asm s o = .skip) : Region.wanted o (yielded ops a.tmps) = false := by
 unfold guardState at hg
 unfold Region.wanted
 split at hg
 ·cases hg
 ·rename_i g want hn
  rw [hn]
  split at hg
  ·cases hg
  ·rename_i d hd
   split at hg
   ·rename_i vs hv
    have h1 := h.look d
    rw [hv] at h1
    have hy : yielded ops a.tmps g = none := by
     generalize hq : a.tmps.getD d undef = v at h1
     cases h1
     unfold yielded
     unfold dstAt at hd
     rw [hd]
     simp only [Option.bind_some]
     cases hz : a.tmps[d]? with
     | none => rfl
     | some v =>
      have : v = .tuple vs := by simpa [hz] using hq
      rw [this]
    simp [hy]
   ·rename_i b hb
    cases hc : (asm.any fun p => Nat.beq p.1 g && (p.2 == want)) with
    | false => rw [hc] at hg; cases hg
    | true =>
     rw [hc] at hg
     simp only [cond_true] at hg
     split at hg <;> cases hg
   ·cases hg
theorem guard_branch {ops : Array Oper} {asm : List (Nat × Bool)} {o : Oper} {d : Nat} {b want : Bool} (hg : guardState ops asm s o = .branch d b want) :
  ∃ g, o.guard = some (g, want) ∧ dstAt ops g = some d ∧ s.look d = .bool b := by
 unfold guardState at hg
 split at hg
 ·cases hg
 ·rename_i g want' hn
  split at hg
  ·cases hg
  ·rename_i d' hd
   split at hg
   ·rename_i vs hv
    cases hc : Nat.beq vs.size 0 <;> rw [hc] at hg <;> cases hg
   ·rename_i b' hb
    cases hc : (asm.any fun p => Nat.beq p.1 g && (p.2 == want')) with
    | false =>
     rw [hc] at hg
     simp only [cond_false, GS.branch.injEq] at hg
     obtain ⟨rfl, rfl, rfl⟩ := hg
     exact ⟨g, hn, hd, hb⟩
    | true =>
     rw [hc] at hg
     simp only [cond_true] at hg
     split at hg <;> cases hg
   ·cases hg
theorem dstOk_lt {o : Oper} (h : dstOk n o = true) : ∀ d, o.dst = some d → d < n := fun d hd => by
 unfold dstOk at h
 rw [hd] at h
 exact Nat.le_of_ble_eq_true h
theorem freeRows_spec {look : Nat → Option (AObj U)} {b : Nat} : ∀ (m : Nat), freeRows look b m = true → ∀ k, k < m → look (b + k) = none := by
 intro m
 induction m with
 | zero => intro _ k hk; omega
 | succ m ih =>
  intro h k hk
  simp only [freeRows, Bool.and_eq_true] at h
  by_cases hkm : k = m
  ·subst hkm
   have h1 := h.1
   split at h1
   ·assumption
   ·cases h1
  ·exact ih h.2 k (by omega)
theorem stepMulti_sound {C : Cfg U} (hs : SumAt C w0) (h : RR C.E n N w0 ρ s a w) {o : Oper} (hd : ∀ d, o.dst = some d → d < n) {cs : List Prop} (ho : stepMulti C s o = some (cs, s')) (hc : conj cs)
  {K : Act → World → Prop} {Q : Exit → Act → World → Prop} (hK : ∀ ρ' a' w', RR C.E n N w0 ρ' s' a' w' → K a' w') : o.wp C.P a w K Q := by
 obtain ⟨dst, op, ty, pos, after, guard⟩ := o
 unfold stepMulti at ho
 simp only at ho hd
 cases op <;> (try simp only at ho) <;> (try (cases ho; done))
 case call c =>
 obtain ⟨callee, args, argTypes⟩ := c
 simp only at ho
 split at ho
 ·rename_i x
  split at ho
  ·rename_i f caps hxe
   split at ho
   ·rename_i cs0 r hr
    split at ho
    ·rename_i d
     obtain ⟨hcnd, ho⟩ := cond_some ho
     simp only [Option.some.injEq, Prod.mk.injEq] at ho
     obtain ⟨rfl, rfl⟩ := ho
     simp only [Bool.and_eq_true] at hcnd
     have hfree := freeRows_spec _ hcnd.2
     have hxr := h.eval x
     rw [hxe] at hxr
     generalize hfv : a.eval x = fv at hxr
     cases hxr with
     | fn _ _ vs hvn hvl =>
     have hargsz : (args.map a.eval ++ vs).size = (args.toList.map s.eval ++ caps).length := by simp [hvn]
     obtain ⟨hcall, hcalls⟩ := callRes_sound hs h (fun _ _ h => h) (args := args.map a.eval ++ vs) hargsz (fun k hk => by
      by_cases hk' : k < args.size
      ·have e : (args.map a.eval ++ vs).getD k undef = a.eval args[k] := by simp [Array.getElem?_append, hk']
       rw [e]
       rw [List.getElem_append_left (by simpa using hk')]
       simp only [List.getElem_map, Array.getElem_toList]
       exact h.eval _
      ·have hk2 : k - args.size < caps.length := by simp at hk; omega
       have e : (args.map a.eval ++ vs).getD k undef = vs.getD (k - args.size) undef := by
        have : k - args.size < vs.size := by omega
        simp [Array.getElem?_append, hk']
       rw [e, List.getElem_append_right (by simp; omega)]
       have := hvl (k - args.size) hk2
       simpa using this) hr hc
     refine wp_enter (f := f) (args := args.map a.eval ++ vs) ?_ (hcalls.mono ?_)
     ·have e : #[] ++ args.map a.eval = args.map a.eval := by simp
      simp [execOp, resolve, hfv, Deferred.ofValue, invoke, hcall]
     ·rintro e w' ⟨v, rfl, hv⟩
      obtain ⟨ρ', hR, hrel⟩ := hv (newBase (C.off + d)) hfree
      exact ⟨v, rfl, hK ρ' _ w' (hR.put (some d) hd hrel)⟩
    ·cases ho
   ·cases ho
  ·cases ho
 ·cases ho
theorem stepDeep_sound {C : Cfg U} (h : RR C.E n N w0 ρ s a w) {o : Oper} (hd : ∀ d, o.dst = some d → d < n) {cs : List Prop} (ho : stepDeep C s o = some (cs, s')) (hc : conj cs)
  {K : Act → World → Prop} {Q : Exit → Act → World → Prop} (hK : ∀ ρ' a' w', RR C.E n N w0 ρ' s' a' w' → K a' w') : o.wp C.P a w K Q := by
 obtain ⟨dst, op, ty, pos, after, guard⟩ := o
 unfold stepDeep at ho
 have hbo := cond_some ho
 clear ho
 obtain ⟨_, ho⟩ := hbo
 simp only at ho hd
 split at ho
 ·rename_i t len parts d
  obtain ⟨_, ho⟩ := cond_some ho
  have fin : ∀ {q : Value} {w' : World} {ρ' : Own}, (Instr.buildSlice t len (parts.map fun (p : Nat × Operand) => (p.1, a.eval p.2))).run C.P w = .ok q w' → RR C.E n N w0 ρ' s' (a.put (some d) q) w' →
    Oper.wp C.P ⟨some d, .buildSlice t len parts, ty, pos, after, guard⟩ a w K Q := fun {q w' ρ'} hrun hR => by
   refine wp_value (u := q) (w' := w') ?_ (hK ρ' _ w' hR)
   show ((do pure (Next.value (← Instr.buildSlice t len (parts.map fun (p : Nat × Operand) => (p.1, a.eval p.2)))) : Sem Next)).run C.P w = _
   simp only [Sem.run_bind, hrun, Result.andThen_ok, Sem.run_pure]
  split at ho
  ·rename_i r hr
   cases ho
   obtain ⟨q, w', ρ', hrun, hR⟩ := deepBuild_sound h (hd d rfl) (parts' := parts.map fun (p : Nat × Operand) => (p.1, a.eval p.2)) (by simp) (parts_rel h parts) hr
   exact fin hrun hR
  ·obtain ⟨q, w', ρ', hrun, hR⟩ := deepNil_sound h (hd d rfl) (parts' := parts.map fun (p : Nat × Operand) => (p.1, a.eval p.2)) (by simp) (parts_rel h parts) ho
   exact fin hrun hR
 ·rename_i c d
  obtain ⟨callee, args, argTypes⟩ := c
  simp only at ho
  split at ho
  ·rename_i x y hargs
   have hargs' : args = #[x, y] := by rw [← Array.toArray_toList (xs := args), hargs]
   subst hargs'
   obtain ⟨q, w', ρ', hrun, hR⟩ := deepAppend_sound (ty := ty) h (hd d rfl) (h.eval x) (h.eval y) ho hc
   refine wp_value (u := q) (w' := w') ?_ (hK ρ' _ w' hR)
   simp [execOp, resolve, invoke, builtin, hrun]
  ·cases ho
 ·rename_i t x hi d
  obtain ⟨_, ho⟩ := cond_some ho
  obtain ⟨q, ρ', hrun, hR⟩ := ownTake_sound h (hd d rfl) (h.eval x) (h.eval hi) ho hc
  refine wp_value (u := q) (w' := w) ?_ (hK ρ' _ w hR)
  simp [execOp, hrun]
 ·cases ho
theorem step_sound {C : Cfg U} (hs : SumAt C w0) (h : RR C.E n N w0 ρ s a w) {o : Oper} {cs : List Prop} (ho : step C n s o = some (cs, s')) (hc : conj cs)
  {K : Act → World → Prop} {Q : Exit → Act → World → Prop} (hK : ∀ ρ' a' w', RR C.E n N w0 ρ' s' a' w' → K a' w') : o.wp C.P a w K Q := by
 unfold step at ho
 obtain ⟨hd, ho⟩ := cond_some ho
 split at ho
 ·rename_i cs' v ob hop
  simp only [Option.some.injEq, Prod.mk.injEq] at ho
  obtain ⟨rfl, rfl⟩ := ho
  exact aop_sound hs h (fun _ _ h => h) (fun _ _ h => h) (dstOk_lt hd) hop hc (fun ρ' u w' hR => hK _ _ _ hR)
 ·split at ho
  ·rename_i r hr
   cases ho
   exact stepMulti_sound hs h (dstOk_lt hd) hr hc hK
  ·rename_i hop _ _
   split at ho
   ·rename_i r hr
    cases ho
    exact stepDeep_sound h (dstOk_lt hd) hr hc hK
   ·split at ho
    ·rename_i cs' v ob hx
     simp only [Option.some.injEq, Prod.mk.injEq] at ho
     obtain ⟨rfl, rfl⟩ := ho
     refine aopA_sound hs h (fun _ _ h => h) (fun _ _ h => h) (dstOk_lt hd) (r := v) (ob := ob) ?_ hc (fun ρ' u w' hR => hK _ _ _ hR)
     unfold aopA
     rw [hop]
     exact hx
    ·cases ho
theorem splitPick_spec {d : Nat} : ∀ {l sg : List Oper} {pk : Oper} {r : List Oper}, splitPick d l = some (sg, pk, r) → l = sg ++ pk :: r ∧ ∃ x y, pk.op = .pick (.tmp d) x y := by
 intro l
 induction l with
 | nil => intro sg pk r h; cases h
 | cons o l ih =>
  intro sg pk r h
  simp only [splitPick] at h
  cases hc : isPick d o with
  | true =>
   rw [hc] at h
   simp only [cond_true, Option.some.injEq, Prod.mk.injEq] at h
   obtain ⟨rfl, rfl, rfl⟩ := h
   refine ⟨rfl, ?_⟩
   unfold isPick at hc
   split at hc
   ·rename_i t x y hop
    obtain rfl := Nat.eq_of_beq_eq_true hc
    exact ⟨x, y, hop⟩
   ·cases hc
  | false =>
   rw [hc] at h
   simp only [cond_false] at h
   split at h
   ·rename_i l' p r' hsp
    simp only [Option.some.injEq, Prod.mk.injEq] at h
    obtain ⟨rfl, rfl, rfl⟩ := h
    obtain ⟨h1, h2⟩ := ih hsp
    exact ⟨by rw [h1]; rfl, h2⟩
   ·cases h
theorem clearAll_objs : ∀ (l : List Oper) (s : ASt U), (clearAll s l).objs = s.objs := by
 intro l
 induction l with
 | nil => intro s; rfl
 | cons o l ih =>
  intro s
  rw [clearAll, ih]
  cases o.dst <;> rfl
theorem clearAll_tmps : ∀ (l : List Oper) (s : ASt U) (t : Nat), ((∃ o ∈ l, o.dst = some t) ∨ s.tmps t = .any) ∧ (clearAll s l).tmps t = .any ∨ (∀ o ∈ l, o.dst ≠ some t) ∧ (clearAll s l).tmps t = s.tmps t := by
 intro l
 induction l with
 | nil => intro s t; exact .inr ⟨by simp, rfl⟩
 | cons o l ih =>
  intro s t
  have hput : (s.put o.dst .any).tmps t = if o.dst = some t then .any else s.tmps t := by
   cases hd : o.dst with
   | none => simp [ASt.put]
   | some d =>
    show cond (Nat.beq t d) .any (s.tmps t) = _
    by_cases hc : t = d
    ·subst hc
     simp
    ·rw [nbeq hc, if_neg (fun e => hc (Option.some.inj e).symm)]
     rfl
  rw [clearAll]
  rcases ih (s.put o.dst .any) t with ⟨h1, h2⟩ | ⟨h1, h2⟩
  ·refine .inl ⟨?_, h2⟩
   rcases h1 with ⟨o', ho', hd⟩ | h1
   ·exact .inl ⟨o', List.mem_cons_of_mem _ ho', hd⟩
   ·rw [hput] at h1
    by_cases hd : o.dst = some t
    ·exact .inl ⟨o, List.mem_cons_self, hd⟩
    ·rw [if_neg hd] at h1
     exact .inr h1
  ·rw [hput] at h2
   by_cases hd : o.dst = some t
   ·rw [if_pos hd] at h2
    exact .inl ⟨.inl ⟨o, List.mem_cons_self, hd⟩, h2⟩
   ·rw [if_neg hd] at h2
    exact .inr ⟨fun o' ho' => by
     rcases List.mem_cons.1 ho' with rfl | ho'
     ·exact hd
     ·exact h1 o' ho', h2⟩
theorem skip_sound {C : Cfg U} {ops : Array Oper} {Q : Exit → Act → World → Prop} {d : Nat} {b want : Bool} (hbw : b ≠ want) :
  ∀ (sg : List Oper) (sk : List Nat) (s : ASt U) (a : Act), RR C.E n N w0 ρ s a w → a.tmps.getD d undef = .bool b → (∀ t ∈ sk, a.tmps.getD t undef = undef) → skipOk ops d want sk sg = true →
   ∀ {K : Act → World → Prop}, (∀ a', RR C.E n N w0 ρ (clearAll s sg) a' w → a'.tmps.getD d undef = .bool b → K a' w) → wpl C.P ops Q sg K a w := by
 intro sg
 induction sg with
 | nil => intro sk s a h hd _ _ K hK; exact hK a h hd
 | cons o sg ih =>
  intro sk s a h hd hsk ho K hK
  simp only [skipOk] at ho
  split at ho
  ·rename_i g w1 t hg ht
   split at ho
   ·rename_i dg hdg
    simp only [Bool.and_eq_true, Bool.or_eq_true, Bool.not_eq_true'] at ho
    obtain ⟨⟨h1, h2⟩, h3⟩ := ho
    have htd : t ≠ d := fun e => by
     subst e
     rw [Nat.beq_refl] at h2
     cases h2
    have hy : yielded ops a.tmps g ≠ some w1 := by
     unfold yielded
     unfold dstAt at hdg
     rw [hdg]
     simp only [Option.bind_some]
     rcases h1 with ⟨h4, h5⟩ | h4
     ·obtain rfl := Nat.eq_of_beq_eq_true h4
      have hw1 : w1 = want := by simpa using h5
      cases hz : a.tmps[dg]? with
      | none => simp
      | some v =>
       have : v = .bool b := by simpa [hz] using hd
       rw [this]
       simp only [ne_eq, Option.some.injEq]
       rw [hw1]
       exact hbw
     ·obtain ⟨t', ht', hb⟩ := List.any_eq_true.1 h4
      obtain rfl := Nat.eq_of_beq_eq_true hb
      have := hsk _ ht'
      cases hz : a.tmps[dg]? with
      | none => simp
      | some v =>
       have : v = undef := by simpa [hz] using this
       rw [this]
       simp [undef]
    unfold wpl
    rw [if_neg (by
     unfold Region.wanted
     rw [hg]
     simpa using hy)]
    have hgetd : ∀ t', t' ≠ t → (a.put o.dst undef).tmps.getD t' undef = a.tmps.getD t' undef := fun t' hne => by
     rw [ht]
     simp [Act.put, Array.getElem?_setIfInBounds_ne (Ne.symm hne)]
    refine ih (t :: sk) (s.put o.dst .any) (a.put o.dst undef) (h.putAny _ _) (by rw [hgetd d (Ne.symm htd)]; exact hd) (fun t' ht' => ?_) h3 (fun a' hR hd' => hK a' hR hd')
    by_cases hc : t' = t
    ·subst hc
     rw [ht]
     by_cases hlt : t' < a.tmps.size
     ·simp [Act.put, hlt]
     ·have : a.tmps.size ≤ t' := by omega
      simp [Act.put, this]
    ·rw [hgetd t' hc]
     rcases List.mem_cons.1 ht' with e | ht'
     ·exact absurd e hc
     ·exact hsk t' ht'
   ·cases ho
  ·cases ho
def NoNew (C : Cfg U) : Prop := (∀ f m xs cs r, C.sum f = some m → m xs = some (cs, r) → r.news = []) ∧ (∀ f, C.eff f = none) ∧ C.pur = true
theorem down_news1 (c : AVal U) : news1 (down1 c) = [] := by cases c <;> rfl
theorem down_lm1 : ∀ (l : List (AVal U)) (k : Nat), lm1 (fun _ => down1) k l = l.map down1 := by
 intro l
 induction l with
 | nil => intro k; rfl
 | cons c l ih => intro k; simp only [lm1, List.map_cons]; rw [ih]
theorem down_news_l (l : List (AVal U)) : (l.map down1).flatMap news1 = [] := by
 induction l with
 | nil => rfl
 | cons c l ih => rw [List.map_cons, List.flatMap_cons, down_news1, ih]; rfl
theorem down_news2 (g : Nat → AVal U → AVal U) (hg : g = fun _ => down1) (k : Nat) (c : AVal U) : news2 (lm2 g k c) = [] := by
 subst hg
 cases c with
 | agg l => simp only [lm2, news2]; rw [down_lm1]; exact down_news_l l
 | _ => rfl
theorem down_news (r : AVal U) : r.down.news = [] := by
 cases r with
 | tup l =>
  show (lm3 (fun _ => down1) 0 l).flatMap news2 = []
  have : ∀ (l : List (AVal U)) (k : Nat), (lm3 (fun _ => down1) k l).flatMap news2 = [] := by
   intro l
   induction l with
   | nil => intro k; rfl
   | cons c l ih =>
    intro k
    simp only [lm3, List.flatMap_cons]
    rw [ih, down_news2 _ rfl]
    rfl
  exact this l 0
 | agg l =>
  show (lm1 (fun _ => down1) 0 l).flatMap news1 = []
  rw [down_lm1]
  exact down_news_l l
 | _ => rfl
theorem noNew_down (C : Cfg U) : NoNew C.down := by
 refine ⟨fun f m xs cs r hf hm => ?_, fun f => rfl, rfl⟩
 simp only [Cfg.down] at hf
 split at hf
 ·cases hf
  simp only at hm
  split at hm
  ·obtain ⟨_, hm⟩ := cond_some hm
   cases hm
   exact down_news _
  ·cases hm
 ·cases hf
theorem down_own1 (f : Nat → Nat) (k : Nat) (c : AVal U) : own1 f k (down1 c) = down1 c := by cases c <;> rfl
theorem down_ownL (f : Nat → Nat) : ∀ (l : List (AVal U)) (k : Nat), lm1 (own1 f) k (l.map down1) = l.map down1 := by
 intro l
 induction l with
 | nil => intro k; rfl
 | cons c l ih => intro k; simp only [List.map_cons, lm1]; rw [down_own1, ih]
theorem down_own2 (f : Nat → Nat) (k k' : Nat) (c : AVal U) : lm2 (own1 f) k (lm2 (fun _ => down1) k' c) = lm2 (fun _ => down1) k' c := by
 cases c with
 | agg l => simp only [lm2]; rw [down_lm1, down_ownL]
 | _ => rfl
theorem down_own (f : Nat → Nat) (r : AVal U) : r.down.ownAs f = r.down := by
 cases r with
 | tup l =>
  have : ∀ (l : List (AVal U)) (k k' : Nat), lm3 (own1 f) k (lm3 (fun _ => down1) k' l) = lm3 (fun _ => down1) k' l := by
   intro l
   induction l with
   | nil => intro k k'; rfl
   | cons c l ih =>
    intro k k'
    simp only [lm3]
    rw [down_own2, ih]
  exact congrArg AVal.tup (this l 0 0)
 | agg l =>
  show AVal.agg (lm1 (own1 f) 0 (lm1 (fun _ => down1) 0 l)) = _
  rw [down_lm1, down_ownL, ← down_lm1 l 0]
  rfl
 | _ => rfl
theorem RelObj.content {E : Enc U} {base k : Nat} {st : Nat → Prop} {x : NewRow U} {u : Value} (h : RelObj E w ρ st base k x.obj) (hst : ∀ b, st b → Out' N w b) (hN : ∀ b, N b → b < base) (hu : Rel E w ρ st (.osl k 0) u) : Rel E w noOwn (Out' N w) (.sl x.2.1 x.2.2) u := by
 have hout : ∀ {e : TypeId} {m n : Nat} {cs : List Value} {v : Value}, w.ownsRow base e m v n cs → ∀ b o l c, v = .slice (some ⟨b, o, none⟩) l c → Out' N w b := fun h2 b o l c hv => by
  rcases h2.2 with ⟨h0, _⟩ | ⟨gb, cap, cur, heq, hbase, hgb, _⟩
  ·rw [hv] at h0
   cases h0
  ·rw [hv] at heq
   simp only [Value.slice.injEq, Option.some.injEq, Addr.mk.injEq, and_true] at heq
   obtain ⟨⟨rfl, _⟩, _⟩ := heq
   exact ⟨(Array.getElem?_eq_some_iff.1 hgb).1, fun hq => by have := hN _ hq; omega⟩
 have toSl : ∀ {t : U.τ} {xs : List (U.T t)} {v : Value} {cs : List Value}, w.ownsRow base (U.ety t) (U.size t) v xs.length cs → (∀ i (h : i < xs.length) k (hk : k < (E.enc t xs[i]).length), Rel E w noOwn (Out' N w) (E.enc t xs[i])[k] (cs.getD (i * U.size t + k) undef)) → Rel E w noOwn (Out' N w) (.sl t xs) v := fun {t xs v cs} h2 h3 => by
  rcases elems_own h2 h3 with ⟨rfl, rfl⟩ | ⟨b, o, cap, f, rfl, hcap, hc, hl'⟩
  ·exact .sl0 t
  ·exact .sl t xs b o cap f (hout h2 _ _ _ _ rfl) hcap hc hl'
 have fl : ∀ {c : AVal U} {v : Value}, c.flat = true → Rel E w ρ st c v → Rel E w noOwn (Out' N w) c v := fun hc hv => (hv.flat (ρ' := noOwn) hc).mono (fun b hb => ⟨hst b hb, rfl⟩) (fun _ _ _ hr => by cases hr)
 have eqv : ∀ {u' : Value}, ρ (.ob k) = some (0, u') → u' = u := fun {u'} q1 => by
  cases hu with
  | osl _ _ _ q hp =>
   rw [q1] at q
   simpa using q
  | oslOld _ _ g' u'' _ q hg =>
   rw [q1] at q
   simp only [Option.some.injEq, Prod.mk.injEq] at q
   omega
 obtain ⟨d, t, xs⟩ := x
 cases d with
 | false =>
  obtain ⟨u', cs', q1, q2, q3, q4⟩ := h
  obtain rfl := eqv q1
  exact toSl q3 (fun i hi k' hk' => fl (E.enc_flat t _ _ (List.getElem_mem hk')).1 (q4 i hi k' hk'))
 | true =>
  obtain ⟨u', cs', q1, q2, q3, q4, q5, q6⟩ := h
  obtain rfl := eqv q1
  refine toSl q3 (fun i hi k' hk' => ?_)
  obtain ⟨t1, ys, v1, ds, r1, r2, r3, r4, r5, r6⟩ := q6 i hi
  have hk0 : k' = 0 := by
   rw [E.enc_len, q4] at hk'
   omega
  subst hk0
  have e1 : (E.enc t xs[i])[0] = .sl t1 ys := by simp only [r1]; rfl
  show Rel E w noOwn (Out' N w) (E.enc t xs[i])[0] _
  rw [e1, q4, Nat.mul_one, Nat.add_zero, r3]
  exact toSl r5 (fun i hi k' hk' => fl (E.enc_flat t1 _ _ (List.getElem_mem hk')).1 (r6 i hi k' hk'))
theorem Fresh.down {E : Enc U} {base : Nat} {r : AVal U} {v : Value} (hok : r.okRes = true) (hN : ∀ b, N b → b < base) (h : Fresh E base N w r v) : Rel E w noOwn (Out' N w) r.down v := by
 obtain ⟨ρr, f1, f2, f3, f4⟩ := h
 refine leafMap_rel (p := fun c => ok1 c = true) (okRes_leaves hok) (fun k c u hpc hnew hu => ?_) f1
 have cases_ : (∃ x, news1 c = [x] ∧ own1 (fun k => k) k c = .osl k 0 ∧ down1 c = .sl x.2.1 x.2.2) ∨ (news1 c = [] ∧ own1 (fun k => k) k c = c ∧ down1 c = c) := by
  cases c <;> first | exact .inl ⟨_, rfl, rfl, rfl⟩ | exact .inr ⟨rfl, rfl, rfl⟩
 rcases cases_ with ⟨x, hcx, e1, e2⟩ | ⟨hcx, e1, e2⟩
 ·rw [e1] at hu
  show Rel E w noOwn (Out' N w) (down1 c) u
  rw [e2]
  exact (f2 k x (hnew x hcx)).content (fun b q => ⟨q.1, q.2.1⟩) hN hu
 ·rw [e1] at hu
  show Rel E w noOwn (Out' N w) (down1 c) u
  rw [e2]
  refine (hu.flat (ρ' := noOwn) ?_).mono (fun b hb => ⟨⟨hb.1, hb.2.1⟩, rfl⟩) (fun _ _ _ hr => by cases hr)
  cases c <;> first | exact hpc | cases hcx
theorem SumAt.down {C : Cfg U} (h : SumAt C w0) : SumAt C.down w0 := by
 refine ⟨fun f m hf => ?_, fun f m hf => by cases hf⟩
 simp only [Cfg.down] at hf
 split at hf
 ·rename_i m0 hm0
  cases hf
  refine ⟨(h.1 f m0 hm0).1, fun N w args xs cs r hb hN hargs hm hc => ?_⟩
  simp only at hm
  split at hm
  ·rename_i cs0 r0 hr0
   obtain ⟨hok, hm⟩ := cond_some hm
   cases hm
   refine ((h.1 f m0 hm0).2 N w args xs _ _ hb hN hargs hr0 hc).mono ?_
   rintro e w' ⟨v, rfl, hv, hbw⟩
   refine ⟨v, rfl, ⟨noOwn, ?_, ?_, ?_, ?_⟩, hbw⟩
   ·rw [down_own]
    exact (hv.down hok hN).mono (fun b q => ⟨⟨q.1, q.2, fun _ _ _ hr => by cases hr⟩, rfl⟩) (fun _ _ _ hr => by cases hr)
   ·intro k x hk
    rw [down_news] at hk
    cases hk
   ·intro k g u hr
    cases hr
   ·intro _ _ _ _ _ _ _ hr
    cases hr
  ·cases hm
 ·cases hf
theorem aop_pure {C : Cfg U} (hnn : NoNew C) {o : Oper} {ev : Operand → AVal U} {look : Nat → Option (AObj U)} {cs : List Prop} {v : AVal U} {ob : Option (Nat × AObj U)} (hp : pureOp o = true) (h : aop C o ev look = some (cs, v, ob)) : ob = none := by
 have hval? : ∀ {x : Option (AVal U)}, val? x = some (cs, v, ob) → ob = none := fun {x} h => by
  unfold val? at h
  split at h
  ·simp only [Option.some.injEq, Prod.mk.injEq] at h
   exact h.2.2.symm
  ·cases h
 have hval : ∀ {x : AVal U}, val x = some (cs, v, ob) → ob = none := fun {x} h => by
  simp only [val, Option.some.injEq, Prod.mk.injEq] at h
  exact h.2.2.symm
 obtain ⟨dst, op, ty, pos, after, guard⟩ := o
 unfold aop at h
 unfold pureOp at hp
 cases op <;> (try simp only at h) <;> (try simp only at hp) <;> (try (cases hp; done))
 case move => exact hval h
 case convert =>
  split at h
  ·exact hval h
  ·cases h
 case buildSlice =>
  split at h
  ·split at h
   ·have h := (cond_some h).2
    split at h
    ·split at h
     ·rw [hnn.2.2, cond_true] at h
      simp only [Option.some.injEq, Prod.mk.injEq] at h
      exact h.2.2.symm
     ·have e : (C.deep || C.pur) = true := by rw [hnn.2.2, Bool.or_true]
      rw [e] at h
      cases h
    ·cases h
   ·cases h
  ·cases h
 case nilCheck =>
  split at h
  ·exact hval h
  ·exact hval (cond_some h).2
  ·exact hval (cond_some h).2
  ·exact hval h
  ·cases h
 case makeFunc =>
  split at h
  ·exact hval (cond_some h).2
  ·cases h
 case pick =>
  split at h
  ·exact hval h
  ·split at h <;> exact hval h
  ·cases h
 case build =>
  split at h
  ·split at h
   ·exact hval h
   ·cases h
  ·cases h
 case load =>
  split at h
  ·exact hval? h
  ·unfold loadF at h
   split at h
   ·split at h
    ·split at h
     ·cases (cond_some h).2
      rfl
     ·cases h
    ·split at h
     ·cases (cond_some h).2
      rfl
     ·cases h
    ·cases h
   ·cases h
 case binOp =>
  split at h
  ·exact hval h
  ·split at h
   ·simp only [Option.some.injEq, Prod.mk.injEq] at h
    exact h.2.2.symm
   ·cases h
 case unOp => exact hval? h
 case fieldAddr =>
  split at h
  ·unfold moveOn at h
   split at h
   ·exact hval h
   ·exact hval (cond_some h).2
   ·exact hval h
   ·exact hval (cond_some h).2
   ·cases h
  ·cases h
 case field =>
  split at h
  ·split at h
   ·exact hval? h
   ·cases h
  ·cases h
 case indexAddr =>
  split at h
  ·split at h
   ·rename_i q0 hq0
    obtain rfl := Option.some.inj h
    unfold indexAddrOf at hq0
    split at hq0
    ·split at hq0
     ·have := (cond_some hq0).2
      simp only [Option.some.injEq, Prod.mk.injEq] at this
      exact this.2.2.symm
     ·split at hq0
      ·have := (cond_some hq0).2
       simp only [Option.some.injEq, Prod.mk.injEq] at this
       exact this.2.2.symm
      ·have := (cond_some hq0).2
       simp only [Option.some.injEq, Prod.mk.injEq] at this
       exact this.2.2.symm
      ·cases hq0
     ·split at hq0
      ·have := (cond_some hq0).2
       simp only [Option.some.injEq, Prod.mk.injEq] at this
       exact this.2.2.symm
      ·cases hq0
     ·simp only [Option.some.injEq, Prod.mk.injEq] at hq0
      exact hq0.2.2.symm
     ·cases hq0
    ·split at hq0
     ·split at hq0
      ·simp only [Option.some.injEq, Prod.mk.injEq] at hq0
       exact hq0.2.2.symm
      ·simp only [Option.some.injEq, Prod.mk.injEq] at hq0
       exact hq0.2.2.symm
      ·cases hq0
     ·cases hq0
    ·cases hq0
   ·unfold indexF at h
    split at h
    ·split at h
     ·cases (cond_some h).2
      rfl
     ·cases h
    ·cases h
  ·cases h
 case index =>
  split at h
  ·unfold indexOf at h
   split at h
   ·simp only [Option.some.injEq, Prod.mk.injEq] at h
    exact h.2.2.symm
   ·split at h
    ·split at h
     ·simp only [Option.some.injEq, Prod.mk.injEq] at h
      exact h.2.2.symm
     ·cases h
    ·cases h
   ·cases h
  ·cases h
 case slice t x lo hi mx =>
  have hsl : ∀ {x : AVal U} {lo hi : Option (AVal U)}, sliceOf C t x lo hi = some (cs, v, ob) → ob = none := fun {x lo hi} h => by
   unfold sliceOf at h
   split at h
   ·split at h <;> first
     | (simp only [Option.some.injEq, Prod.mk.injEq] at h; exact h.2.2.symm)
     | (cases h; done)
   ·have h := (cond_some h).2
    split at h <;> first
     | (simp only [Option.some.injEq, Prod.mk.injEq] at h; exact h.2.2.symm)
     | (cases h; done)
   ·cases h
  cases mx with
  | some m => cases h
  | none => cases lo <;> cases hi <;> exact hsl h
 case extract =>
  split at h
  ·exact hval? h
  ·cases h
 case call c =>
  obtain ⟨callee, args, argTypes⟩ := c
  simp only at h hp
  split at h
  ·split at h
   ·split at h
    ·exact hval h
    ·cases h
   ·cases h
  ·exact hval? h
  ·exact hval? h
  ·cases hp
  ·rename_i x
   split at h
   ·rw [hnn.2.1] at h
    simp only at h
    unfold callOf at h
    split at h
    ·rename_i cs0 r0 hr
     have hn0 : r0.news = [] := by
      unfold callRes at hr
      split at hr
      ·rename_i m hm
       split at hr
       ·split at hr
        ·rename_i hmx
         obtain ⟨_, hr⟩ := cond_some hr
         cases hr
         exact hnn.1 _ _ _ _ _ hm hmx
        ·cases hr
       ·cases hr
      ·cases hr
     rw [hn0] at h
     cases h
     rfl
    ·cases h
   ·cases h
  ·cases h
theorem aopX_pure {C : Cfg U} (hnn : NoNew C) {o : Oper} {ev : Operand → AVal U} {look : Nat → Option (AObj U)} {cs : List Prop} {v : AVal U} {ob : Option (Nat × AObj U)} (hp : pureOp o = true) (h : aopX C o ev look = some (cs, v, ob)) : ob = none := by
 obtain ⟨dst, op, ty, pos, after, guard⟩ := o
 unfold aopX at h
 unfold pureOp at hp
 cases op <;> (try simp only at h) <;> (try simp only at hp) <;> (try (cases hp; done)) <;> (try (cases h; done))
 case slice t x lo hi mx =>
  have hsl : ∀ {x : AVal U} {lo hi : Option (AVal U)}, sliceOwn C look t x lo hi = some (cs, v, ob) → ob = none := fun {x lo hi} h => by
   unfold sliceOwn at h
   split at h
   ·split at h
    ·have h := (cond_some h).2
     split at h <;> first
      | (simp only [Option.some.injEq, Prod.mk.injEq] at h; exact h.2.2.symm)
      | (cases h; done)
    ·cases h
   ·cases h
  cases mx with
  | some m => cases h
  | none => cases lo <;> cases hi <;> first | (exact hsl h) | (cases h; done)
 case indexAddr t x ix =>
  unfold indexS at h
  split at h
  ·split at h
   ·have h := (cond_some h).2
    simp only [Option.some.injEq, Prod.mk.injEq] at h
    exact h.2.2.symm
   ·cases h
  ·split at h
   ·have h := (cond_some h).2
    simp only [Option.some.injEq, Prod.mk.injEq] at h
    exact h.2.2.symm
   ·cases h
  ·cases h
 case buildSlice t len parts =>
  exfalso
  split at h
  ·unfold buildOne at h
   split at h
   ·split at h
    ·have hb := (cond_some h).1
     rw [hnn.2.2] at hb
     simp at hb
    ·cases h
   ·cases h
  ·cases h
 case call c =>
  exfalso
  obtain ⟨callee, args, argTypes⟩ := c
  simp only at h hp
  split at h
  ·simp only at hp
   cases hp
  ·simp only at hp
   cases hp
  ·cases h
end
end Go.Vm
namespace Go.Vm
open Go.RowKit
set_option linter.unusedVariables false
section
variable {U : Univ} {n : Nat} {N : Nat → Prop} {w0 : Fr} {w w' : World} {ρ ρ' : Own} {s s' s1 s2 : ASt U} {a : Act}
theorem conj_append (l m : List Prop) : conj (l ++ m) ↔ conj l ∧ conj m := by
 simp only [conj_iff, List.mem_append]
 exact ⟨fun h => ⟨fun p hp => h p (.inl hp), fun p hp => h p (.inr hp)⟩, fun ⟨h1, h2⟩ p hp => hp.elim (h1 p) (h2 p)⟩
theorem guarded_conj {p : Prop} {cs : List Prop} (h : conj (guarded p cs)) (hp : p) : conj cs := by
 cases cs with
 | nil => trivial
 | cons c cs => exact h hp
theorem stepMulti_pure {C : Cfg U} (hnn : NoNew C) {o : Oper} {r : List Prop × ASt U} (h : stepMulti C s o = some r) : False := by
 unfold stepMulti at h
 split at h
 ·split at h
  ·split at h
   ·split at h
    ·rename_i cs0 r0 hr
     split at h
     ·obtain ⟨hcnd, _⟩ := cond_some h
      simp only [Bool.and_eq_true] at hcnd
      have h2 := Nat.le_of_ble_eq_true hcnd.1
      have hn0 : r0.news = [] := by
       unfold callRes at hr
       split at hr
       ·rename_i m hm
        split at hr
        ·split at hr
         ·rename_i hmx
          obtain ⟨_, hr⟩ := cond_some hr
          cases hr
          exact hnn.1 _ _ _ _ _ hm hmx
         ·cases hr
        ·cases hr
       ·cases hr
      rw [hn0] at h2
      simp at h2
     ·cases h
    ·cases h
   ·cases h
  ·cases h
 ·cases h
theorem step_frame {C : Cfg U} (hnn : NoNew C) {o : Oper} {cs : List Prop} (hp : pureOp o = true) (h : step C n s o = some (cs, s')) : s'.objs = s.objs ∧ ∀ t, o.dst ≠ some t → s'.tmps t = s.tmps t := by
 have fin : ∀ v : AVal U, ((s.putObj none).put o.dst v).objs = s.objs ∧ ∀ t, o.dst ≠ some t → ((s.putObj none).put o.dst v).tmps t = s.tmps t := fun v => by
  cases hd : o.dst with
  | none => exact ⟨rfl, fun t _ => rfl⟩
  | some d =>
   refine ⟨rfl, fun t ht => ?_⟩
   show cond (Nat.beq t d) v (s.tmps t) = s.tmps t
   rw [nbeq (fun e => ht (by rw [e]))]
   rfl
 unfold step at h
 obtain ⟨_, h⟩ := cond_some h
 split at h
 ·rename_i cs' v ob hop
  simp only [Option.some.injEq, Prod.mk.injEq] at h
  obtain ⟨rfl, rfl⟩ := h
  obtain rfl := aop_pure hnn hp hop
  exact fin v
 ·split at h
  ·rename_i r hr0
   cases h
   exact (stepMulti_pure hnn hr0).elim
  ·split at h
   ·rename_i r hr
    obtain ⟨dst, op, ty, pos, after, guard⟩ := o
    unfold stepDeep at hr
    have hbn := (cond_some hr).1
    rw [hnn.2.2, Bool.not_true] at hbn
    cases hbn
   ·split at h
    ·rename_i cs' v ob hx
     simp only [Option.some.injEq, Prod.mk.injEq] at h
     obtain ⟨rfl, rfl⟩ := h
     obtain rfl := aopX_pure hnn hp hx
     exact fin v
    ·cases h
theorem put_frame (s : ASt U) (dst : Option Tmp) (v : AVal U) : (s.put dst v).objs = s.objs ∧ ∀ t, dst ≠ some t → (s.put dst v).tmps t = s.tmps t := by
 cases dst with
 | none => exact ⟨rfl, fun t _ => rfl⟩
 | some d =>
  refine ⟨rfl, fun t ht => ?_⟩
  show cond (Nat.beq t d) v (s.tmps t) = s.tmps t
  rw [nbeq (fun e => ht (by rw [e]))]
  rfl
theorem clearAll_frame (l : List Oper) (s : ASt U) : (clearAll s l).objs = s.objs ∧ ∀ t, (∀ o ∈ l, o.dst ≠ some t) → (clearAll s l).tmps t = s.tmps t := by
 refine ⟨clearAll_objs l s, ?_⟩
 induction l generalizing s with
 | nil => intro t _; rfl
 | cons o l ih =>
  intro t ht
  rw [clearAll, ih _ t (fun o' ho' => ht o' (List.mem_cons_of_mem _ ho'))]
  exact (put_frame s o.dst .any).2 t (ht o List.mem_cons_self)
theorem crun_frame {ops : Array Oper} : ∀ (f : Nat) (C : Cfg U) (hnn : NoNew C) (asm : List (Nat × Bool)) (l : List Oper) (s s' : ASt U) (cs : List Prop), crun C n ops f asm l s = some (cs, s') → l.all pureOp = true →
  s'.objs = s.objs ∧ ∀ t, (∀ o ∈ l, o.dst ≠ some t) → s'.tmps t = s.tmps t := by
 intro f
 induction f with
 | zero => intro C hnn asm l s s' cs h; cases h
 | succ f ih =>
  intro C hnn asm l s s' cs h hp
  unfold crun at h
  split at h
  ·simp only [Option.some.injEq, Prod.mk.injEq] at h
   obtain ⟨rfl, rfl⟩ := h
   exact ⟨rfl, fun _ _ => rfl⟩
  ·rename_i o rest
   simp only [List.all_cons, Bool.and_eq_true] at hp
   split at h
   ·split at h
    ·rename_i cs1 s1 hs1
     split at h
     ·rename_i cs2 s2 hs2
      simp only [Option.some.injEq, Prod.mk.injEq] at h
      obtain ⟨rfl, rfl⟩ := h
      obtain ⟨h1, h2⟩ := step_frame hnn hp.1 hs1
      obtain ⟨h3, h4⟩ := ih C hnn _ _ _ _ _ hs2 hp.2
      exact ⟨h3.trans h1, fun t ht => (h4 t (fun o' ho' => ht o' (List.mem_cons_of_mem _ ho'))).trans (h2 t (ht o List.mem_cons_self))⟩
     ·cases h
    ·cases h
   ·obtain ⟨_, h⟩ := cond_some h
    obtain ⟨h3, h4⟩ := ih C hnn _ _ _ _ _ h hp.2
    obtain ⟨h1, h2⟩ := put_frame s o.dst (.raw undef)
    exact ⟨h3.trans h1, fun t ht => (h4 t (fun o' ho' => ht o' (List.mem_cons_of_mem _ ho'))).trans (h2 t (ht o List.mem_cons_self))⟩
   ·rename_i d b want hg
    split at h
    ·rename_i sg pk rest' hsp
     obtain ⟨hl, _⟩ := splitPick_spec hsp
     split at h
     ·obtain ⟨hcnd, h⟩ := cond_some h
      split at h
      ·split at h
       ·split at h
        ·rename_i cs2 s2 hs2
         simp only [Option.some.injEq, Prod.mk.injEq] at h
         obtain ⟨rfl, rfl⟩ := h
         have hpl : (o :: rest).all pureOp = true := by simp [hp.1, hp.2]
         rw [hl] at hpl ⊢
         simp only [List.all_append, List.all_cons, Bool.and_eq_true] at hpl
         obtain ⟨h3, h4⟩ := ih C hnn _ _ _ _ _ hs2 hpl.2.2
         rename_i x y v _ _
         obtain ⟨h1, h2⟩ := clearAll_frame sg s
         obtain ⟨h5, h6⟩ := put_frame (clearAll s sg) pk.dst v
         refine ⟨h3.trans (h5.trans h1), fun t ht => ?_⟩
         rw [h4 t (fun o' ho' => ht o' (by simp [ho'])), h6 t (ht pk (by simp)), h2 t (fun o' ho' => ht o' (by simp [ho']))]
        ·cases h
       ·cases h
      ·cases h
     ·cases h
    ·cases h
   ·cases h
theorem skipOk_ne {ops : Array Oper} {d : Nat} {want : Bool} : ∀ (sg : List Oper) (sk : List Nat), skipOk ops d want sk sg = true → ∀ o ∈ sg, o.dst ≠ some d := by
 intro sg
 induction sg with
 | nil => intro sk _ o ho; cases ho
 | cons o sg ih =>
  intro sk h o' ho'
  simp only [skipOk] at h
  split at h
  ·rename_i g w1 t hg ht
   split at h
   ·simp only [Bool.and_eq_true, Bool.not_eq_true'] at h
    rcases List.mem_cons.1 ho' with rfl | ho'
    ·rw [ht]
     intro e
     obtain rfl := Option.some.inj e
     rw [Nat.beq_refl] at h
     cases h.1.2
    ·exact ih _ h.2 o' ho'
   ·cases h
  ·cases h
theorem crun_sound {ops : Array Oper} {Q : Exit → Act → World → Prop} : ∀ (f : Nat) (C : Cfg U) (hs : SumAt C w0) (asm : List (Nat × Bool)) (l : List Oper) (s s' : ASt U) (cs : List Prop), crun C n ops f asm l s = some (cs, s') → conj cs →
  ∀ (ρ : Own) (a : Act) (w : World), RR C.E n N w0 ρ s a w → ∀ (K : Act → World → Prop), (∀ ρ' a' w', RR C.E n N w0 ρ' s' a' w' → K a' w') → wpl C.P ops Q l K a w := by
 intro f
 induction f with
 | zero => intro C hs asm l s s' cs h; cases h
 | succ f ih =>
  intro C hs asm l s s' cs h hc ρ a w hR K hK
  unfold crun at h
  split at h
  ·simp only [Option.some.injEq, Prod.mk.injEq] at h
   obtain ⟨rfl, rfl⟩ := h
   exact hK ρ a w hR
  ·rename_i o rest
   split at h
   ·rename_i hg
    split at h
    ·rename_i cs1 s1 hs1
     split at h
     ·rename_i cs2 s2 hs2
      simp only [Option.some.injEq, Prod.mk.injEq] at h
      obtain ⟨rfl, rfl⟩ := h
      rw [conj_append] at hc
      unfold wpl
      rw [if_pos (guard_run hR hg)]
      exact step_sound hs hR hs1 hc.1 (fun ρ' a' w' hR' => ih C hs _ _ _ _ _ hs2 hc.2 ρ' a' w' hR' K hK)
     ·cases h
    ·cases h
   ·rename_i hg
    obtain ⟨hd, h⟩ := cond_some h
    unfold wpl
    rw [if_neg (by rw [guard_skip hR hg]; simp)]
    exact ih C hs _ _ _ _ _ h hc ρ _ w (hR.put o.dst (dstOk_lt hd) (.raw _)) K hK
   ·rename_i d b want hg
    split at h
    ·rename_i sg pk rest' hsp
     obtain ⟨hl, x0, y0, hpk0⟩ := splitPick_spec hsp
     split at h
     ·rename_i cc x y hgp hpk
      rw [hpk0] at hpk
      simp only [Op.pick.injEq] at hpk
      obtain ⟨rfl, rfl, rfl⟩ := hpk
      obtain ⟨hcnd, h⟩ := cond_some h
      simp only [Bool.and_eq_true] at hcnd
      obtain ⟨⟨⟨hpure, hskip⟩, hdpk⟩, hdn⟩ := hcnd
      have hdn : d < n := Nat.le_of_ble_eq_true hdn
      split at h
      ·rename_i cs1 s1 hs1
       split at h
       ·rename_i v hv
        split at h
        ·rename_i cs2 s2 hs2
         simp only [Option.some.injEq, Prod.mk.injEq] at h
         obtain ⟨rfl, rfl⟩ := h
         rw [conj_append] at hc
         obtain ⟨g, hog, hdg, hsd0⟩ := guard_branch hg
         obtain ⟨hlt, hsd⟩ := look_some hsd0 (fun e => by cases e)
         rw [hl]
         refine wpl_append sg (pk :: rest') ?_
         have hrel := hR.tmps d
         rw [hsd, valAt_lt hlt] at hrel
         have had := bool_of_rel hrel
         -- what follows, from a state that is cleared, with the pick's value
         have fin : ∀ ρ' a' w', RR C.E n N w0 ρ' (clearAll s sg) a' w' → a'.tmps.getD d undef = .bool b → Rel C.E w' ρ' (Stab N ρ' w') v (if b = true then a'.eval x0 else a'.eval y0) →
           Region.wanted pk (yielded ops a'.tmps) = true → wpl C.P ops Q (pk :: rest') K a' w' := fun ρ' a' w' hR' hb hv' hw => by
          unfold wpl
          rw [if_pos hw]
          refine wp_value (u := if b = true then a'.eval x0 else a'.eval y0) (w' := w') ?_ (ih C hs _ _ _ _ _ hs2 hc.2 ρ' _ w' (hR'.put pk.dst (dstOk_lt hdpk) hv') K hK)
          have he : a'.eval (.tmp d) = .bool b := hb
          simp [execOp, hpk0, he, asBool]
         have hpkw : ∀ ρ' a' w', RR C.E n N w0 ρ' (clearAll s sg) a' w' → Region.wanted pk (yielded ops a'.tmps) = true := fun ρ' a' w' hR' => by
          exact guard_run (s := clearAll s sg) (asm := asm) hR' hgp
         by_cases hbw : b = want
         ·subst hbw
          have hR1 : RR C.E n N w0 ρ (s.set d (.bool b)) a w := by
           refine hR.weaken rfl (fun t => .inr ?_)
           show cond (Nat.beq t d) (.bool b) (s.tmps t) = s.tmps t
           by_cases ht : t = d
           ·subst ht
            rw [Nat.beq_refl, hsd]
            rfl
           ·rw [nbeq ht]
            rfl
          refine ih C.down hs.down _ _ _ _ _ hs1 (guarded_conj hc.1 rfl) ρ a w hR1 _ (fun ρ' a' w' hR' => ?_)
          obtain ⟨ho, ht⟩ := crun_frame f C.down (noNew_down C) _ _ _ _ _ hs1 hpure
          have hset : (s.set d (.bool b)).tmps d = .bool b := by
           show cond (Nat.beq d d) _ _ = _
           rw [Nat.beq_refl]
           rfl
          have hd1 : s1.tmps d = .bool b := by
           rw [ht d (skipOk_ne sg [] hskip), hset]
          have hRc : RR C.E n N w0 ρ' (clearAll s sg) a' w' := by
           refine hR'.weaken ((clearAll_objs sg s).trans ho.symm) (fun t => ?_)
           rcases clearAll_tmps sg s t with ⟨_, h2⟩ | ⟨h1, h2⟩
           ·exact .inl h2
           ·refine .inr ?_
            rw [h2, ht t h1]
            show s.tmps t = cond (Nat.beq t d) (.bool b) (s.tmps t)
            by_cases ht : t = d
            ·subst ht
             rw [Nat.beq_refl, hsd]
             rfl
            ·rw [nbeq ht]
             rfl
          have had' : a'.tmps.getD d undef = .bool b := by
           have := hR'.tmps d
           rw [hd1, valAt_lt hlt] at this
           exact bool_of_rel this
          refine fin ρ' a' w' hRc had' ?_ (hpkw ρ' a' w' hRc)
          -- the value: what the part computed
          unfold mergeVal at hv
          split at hv
          ·rename_i p q hvp hvq
           have hx1 : Rel C.E w' ρ' (Stab N ρ' w') (s1.eval (cond b x0 y0)) (a'.eval (cond b x0 y0)) := hR'.eval (cond b x0 y0)
           rw [hvp] at hx1
           cases b with
           | true =>
            simp only [cond_true] at hx1 hv
            split at hv <;> (obtain rfl := Option.some.inj hv; simpa using hx1)
           | false =>
            simp only [cond_false] at hx1 hv
            split at hv <;> (obtain rfl := Option.some.inj hv; simpa using hx1)
          ·cases hv
         ·refine skip_sound hbw sg [] s a hR had (fun t ht => by cases ht) hskip (fun a' hR' hd' => ?_)
          refine fin ρ a' w hR' hd' ?_ (hpkw ρ a' w hR')
          unfold mergeVal at hv
          split at hv
          ·rename_i p q hvp hvq
           have hx1 := hR'.eval (cond want y0 x0)
           rw [hvq] at hx1
           cases want with
           | true =>
            have hb : b = false := by cases b <;> simp_all
            subst hb
            simp only [cond_true] at hx1 hv
            split at hv
            ·obtain rfl := Option.some.inj hv
             exact .bool _
            ·obtain rfl := Option.some.inj hv
             simpa using hx1
           | false =>
            have hb : b = true := by cases b <;> simp_all
            subst hb
            simp only [cond_false] at hx1 hv
            split at hv
            ·obtain rfl := Option.some.inj hv
             exact .bool _
            ·obtain rfl := Option.some.inj hv
             simpa using hx1
          ·cases hv
        ·cases h
       ·cases h
      ·cases h
     ·cases h
    ·cases h
   ·cases h
end
end Go.Vm
namespace Go.Vm
open Go.RowKit
set_option linter.unusedVariables false
structure Ent (U : Univ) where
 dst : Option Tmp
 v : AVal U
 ob : Option (Nat × AObj U)
 looks : List Nat
 ids : List Nat
section
variable {U : Univ}
def app (s : ASt U) (e : Ent U) : ASt U := (s.putObj e.ob).put e.dst e.v
def SD (D : Nat → Bool) : Nat → ASt U → List (Ent U) → ASt U
 | _, s, [] => s
 | k, s, e :: es => SD D (k + 1) (cond (D k) (app s e) s) es
def wid (e : Ent U) : Option Nat := e.ob.map (·.1)
theorem put_tmps (s : ASt U) (dst : Option Tmp) (v : AVal U) (t : Nat) : (s.put dst v).tmps t = if dst = some t then v else s.tmps t := by
 cases dst with
 | none => simp [ASt.put]
 | some d =>
  show cond (Nat.beq t d) v (s.tmps t) = _
  by_cases hc : t = d
  ·subst hc
   simp
  ·rw [nbeq hc, if_neg (fun e => hc (Option.some.inj e).symm)]
   rfl
theorem app_tmps (s : ASt U) (e : Ent U) (t : Nat) : (app s e).tmps t = if e.dst = some t then e.v else s.tmps t := by
 unfold app
 rw [put_tmps]
 cases e.ob <;> rfl
theorem app_objs (s : ASt U) (e : Ent U) (id : Nat) : (app s e).objs id = if wid e = some id then e.ob.map (·.2) else s.objs id := by
 unfold app wid
 have h : ((s.putObj e.ob).put e.dst e.v).objs = (s.putObj e.ob).objs := by cases e.dst <;> rfl
 rw [h]
 cases e.ob with
 | none => simp [ASt.putObj]
 | some p =>
  obtain ⟨i, o⟩ := p
  show cond (Nat.beq id i) (some o) (s.objs id) = _
  by_cases hc : id = i
  ·subst hc
   simp
  ·rw [nbeq hc, if_neg (fun e => hc (by simpa using e.symm))]
   rfl
theorem SD_tmps_congr {D D' : Nat → Bool} {t : Nat} : ∀ (es : List (Ent U)) (k : Nat) (s s' : ASt U), s.tmps t = s'.tmps t → (∀ i (h : i < es.length), es[i].dst = some t → D (k + i) = D' (k + i)) → (SD D k s es).tmps t = (SD D' k s' es).tmps t := by
 intro es
 induction es with
 | nil => intro k s s' h _; exact h
 | cons e es ih =>
  intro k s s' h hD
  refine ih (k + 1) _ _ ?_ (fun i hi hd => by have := hD (i + 1) (by simpa using hi) (by simpa using hd); rw [Nat.add_assoc, Nat.add_comm 1 i]; exact this)
  by_cases hd : e.dst = some t
  ·have := hD 0 (by simp) (by simpa using hd)
   simp only [Nat.add_zero] at this
   rw [this]
   cases D' k
   ·exact h
   ·simp only [cond_true, app_tmps, if_pos hd]
  ·have h1 : ∀ (s : ASt U) b, (cond b (app s e) s).tmps t = s.tmps t := fun s b => by
    cases b
    ·rfl
    ·simp only [cond_true, app_tmps, if_neg hd]
   rw [h1, h1]
   exact h
theorem SD_objs_congr {D D' : Nat → Bool} {id : Nat} : ∀ (es : List (Ent U)) (k : Nat) (s s' : ASt U), s.objs id = s'.objs id → (∀ i (h : i < es.length), wid es[i] = some id → D (k + i) = D' (k + i)) → (SD D k s es).objs id = (SD D' k s' es).objs id := by
 intro es
 induction es with
 | nil => intro k s s' h _; exact h
 | cons e es ih =>
  intro k s s' h hD
  refine ih (k + 1) _ _ ?_ (fun i hi hd => by have := hD (i + 1) (by simpa using hi) (by simpa using hd); rw [Nat.add_assoc, Nat.add_comm 1 i]; exact this)
  by_cases hd : wid e = some id
  ·have := hD 0 (by simp) (by simpa using hd)
   simp only [Nat.add_zero] at this
   rw [this]
   cases D' k
   ·exact h
   ·simp only [cond_true, app_objs, if_pos hd]
  ·have h1 : ∀ (s : ASt U) b, (cond b (app s e) s).objs id = s.objs id := fun s b => by
    cases b
    ·rfl
    ·simp only [cond_true, app_objs, if_neg hd]
   rw [h1, h1]
   exact h
theorem SD_none {D : Nat → Bool} : ∀ (es : List (Ent U)) (k : Nat) (s : ASt U), (∀ i, i < es.length → D (k + i) = false) → SD D k s es = s := by
 intro es
 induction es with
 | nil => intro k s _; rfl
 | cons e es ih =>
  intro k s h
  have h0 := h 0 (by simp)
  simp only [Nat.add_zero] at h0
  simp only [SD, h0, cond_false]
  exact ih (k + 1) s (fun i hi => by have := h (i + 1) (by simpa using hi); rw [Nat.add_assoc, Nat.add_comm 1 i]; exact this)
theorem SD_tmps_last {D : Nat → Bool} {t : Nat} : ∀ (es : List (Ent U)) (k : Nat) (s : ASt U) (i : Nat) (hi : i < es.length), D (k + i) = true → es[i].dst = some t → (∀ j (h : j < es.length), i < j → es[j].dst = some t → D (k + j) = false) →
  (SD D k s es).tmps t = es[i].v := by
 intro es
 induction es with
 | nil => intro k s i hi; simp at hi
 | cons e es ih =>
  intro k s i hi hD hd hlast
  cases i with
  | zero =>
   simp only [Nat.add_zero] at hD
   simp only [List.getElem_cons_zero] at hd ⊢
   show (SD D (k + 1) (cond (D k) (app s e) s) es).tmps t = e.v
   rw [hD]
   have hb : (app s e).tmps t = e.v := by rw [app_tmps, if_pos hd]
   rw [← hb]
   have := SD_tmps_congr (D := D) (D' := fun _ => false) (t := t) es (k + 1) (app s e) (app s e) rfl (fun j hj hdj => by
    have := hlast (j + 1) (by simpa using hj) (by omega) (by simpa using hdj)
    rw [Nat.add_assoc, Nat.add_comm 1 j]
    exact this)
   simp only [cond_true]
   rw [this, SD_none es (k + 1) _ (fun _ _ => rfl)]
  | succ i =>
   simp only [List.getElem_cons_succ] at hd ⊢
   exact ih (k + 1) _ i (by simpa using hi) (by rw [Nat.add_assoc, Nat.add_comm 1 i]; exact hD) hd (fun j hj hij hdj => by
    have := hlast (j + 1) (by simpa using hj) (by omega) (by simpa using hdj)
    rw [Nat.add_assoc, Nat.add_comm 1 j]
    exact this)
theorem SD_objs_last {D : Nat → Bool} {id : Nat} : ∀ (es : List (Ent U)) (k : Nat) (s : ASt U) (i : Nat) (hi : i < es.length), D (k + i) = true → wid es[i] = some id → (∀ j (h : j < es.length), i < j → wid es[j] = some id → D (k + j) = false) →
  (SD D k s es).objs id = es[i].ob.map (·.2) := by
 intro es
 induction es with
 | nil => intro k s i hi; simp at hi
 | cons e es ih =>
  intro k s i hi hD hd hlast
  cases i with
  | zero =>
   simp only [Nat.add_zero] at hD
   simp only [List.getElem_cons_zero] at hd ⊢
   show (SD D (k + 1) (cond (D k) (app s e) s) es).objs id = _
   rw [hD]
   have hb : (app s e).objs id = e.ob.map (·.2) := by rw [app_objs, if_pos hd]
   rw [← hb]
   have := SD_objs_congr (D := D) (D' := fun _ => false) (id := id) es (k + 1) (app s e) (app s e) rfl (fun j hj hdj => by
    have := hlast (j + 1) (by simpa using hj) (by omega) (by simpa using hdj)
    rw [Nat.add_assoc, Nat.add_comm 1 j]
    exact this)
   simp only [cond_true]
   rw [this, SD_none es (k + 1) _ (fun _ _ => rfl)]
  | succ i =>
   simp only [List.getElem_cons_succ] at hd ⊢
   exact ih (k + 1) _ i (by simpa using hi) (by rw [Nat.add_assoc, Nat.add_comm 1 i]; exact hD) hd (fun j hj hij hdj => by
    have := hlast (j + 1) (by simpa using hj) (by omega) (by simpa using hdj)
    rw [Nat.add_assoc, Nat.add_comm 1 j]
    exact this)
theorem ASt.ext' {s s' : ASt U} (h1 : ∀ t, s.tmps t = s'.tmps t) (h2 : ∀ id, s.objs id = s'.objs id) : s = s' := by
 cases s
 cases s'
 simp only [ASt.mk.injEq]
 exact ⟨funext h1, funext h2⟩
def apart2 (x y : Ent U) : Bool :=
 (match x.dst with
  | some d => !y.looks.any (Nat.beq d) && (match y.dst with
   | some e => !Nat.beq d e
   | none => true)
  | none => true) &&
 (match y.dst with
  | some e => !x.looks.any (Nat.beq e)
  | none => true) &&
 (match x.ob with
  | some (i, _) => !y.ids.any (Nat.beq i) && (match y.ob with
   | some (j, _) => !Nat.beq i j
   | none => true)
  | none => true) &&
 (match y.ob with
  | some (j, _) => !x.ids.any (Nat.beq j)
  | none => true)
def waits (o : Oper) (i : Nat) : Bool := o.after.toList.any fun e => Region.binds .any e && Nat.beq e.on i
def waitsF (ops : Array Oper) : Nat → Oper → Nat → Bool
 | 0, o, i => waits o i
 | f + 1, o, i => waits o i || o.after.toList.any fun e => Region.binds .any e && (Nat.blt i e.on && (match ops[e.on]? with
  | some o' => waitsF ops f o' i
  | none => false))
def chkOne (ops : Array Oper) (o : Oper) (e : Ent U) : Nat → List (Ent U) → Bool
 | _, [] => true
 | i, x :: xs => (waits o i || apart2 x e || waitsF ops 3 o i) && chkOne ops o e (i + 1) xs
def chkAll (ops : Array Oper) : List Oper → List (Ent U) → List (Ent U) → Bool
 | [], _, _ => true
 | o :: os, done, e :: es => (o.after.toList.all fun ed => !Region.binds .any ed || Nat.blt ed.on done.length) && chkOne ops o e 0 done && chkAll ops os (done ++ [e]) es
 | _ :: _, _, [] => false
def mentions1 : AVal U → List Nat
 | .ptr id _ => [id]
 | .eptr id _ _ _ _ => [id]
 | .osl id _ => [id]
 | .msl id _ _ => [id]
 | .meptr id _ _ _ _ _ => [id]
 | .ovw id _ _ _ _ => [id]
 | _ => []
def mentions : AVal U → List Nat
 | .agg l => l.flatMap mentions1
 | .fn _ l => l.flatMap mentions1
 | c => mentions1 c
def lookR (ids : List Nat) (f : Nat → Option (AObj U)) : Nat → Option (AObj U) := fun id => cond (ids.any (Nat.beq id)) (f id) none
def idsOf (C : Cfg U) (o : Oper) (s : ASt U) : List Nat :=
 match o.op with
 | .move _ => o.dst.toList.map (C.off + ·)
 | .assign _ => o.dst.toList.map (C.off + ·)
 | _ => o.dst.toList.map (C.off + ·) ++ o.op.operands.toList.flatMap fun x => mentions (s.eval x)
def looksOf (ops : Array Oper) (o : Oper) : List Nat :=
 (o.op.operands.toList.filterMap fun | .tmp t => some t | _ => none) ++ (match o.guard with
  | some (g, _) => (dstAt ops g).toList
  | none => [])
def both (cs : List Prop) (p : Prop) : Prop :=
 match cs with
 | [] => p
 | c :: cs => conj (c :: cs) ∧ p
def xdraw (C : Cfg U) (n : Nat) (ops : Array Oper) : List Oper → List (Ent U) → ASt U → (List (Ent U) → ASt U → Prop) → Prop
 | [], es, s, K => K es s
 | o :: r, es, s, K =>
  let run (s : ASt U) : Prop := match aopA C.dm o s.eval (lookR (idsOf C o s) s.objs) with
   | some (cs, v, ob) => both cs (xdraw C n ops r (es ++ [⟨o.dst, v, ob, looksOf ops o, idsOf C o s⟩]) ((s.putObj ob).put o.dst v) K)
   | none => False
  let skip (s : ASt U) : Prop := xdraw C n ops r (es ++ [⟨o.dst, .raw undef, none, looksOf ops o, []⟩]) (s.put o.dst (.raw undef)) K
  cond (dstOk n o) (match o.guard with
   | none => run s
   | some (g, want) => match dstAt ops g with
    | none => False
    | some d => match s.look d with
     | .raw (.tuple vs) => cond (Nat.beq vs.size 0) (skip s) False
     | .bool b => match b with
      | true => cond want (run (s.set d (.bool true))) (skip (s.set d (.bool true)))
      | false => cond want (skip (s.set d (.bool false))) (run (s.set d (.bool false)))
     | _ => False) False
end
end Go.Vm
namespace Go.Vm
open Go.RowKit
set_option linter.unusedVariables false
section
variable {U : Univ} {n : Nat} {N : Nat → Prop} {w0 : Fr} {w w' : World} {ρ ρ' : Own} {s s' s0 : ASt U} {a : Act} {C : Cfg U} {ops : Array Oper}
def AL : Nat → Bool := fun _ => true
theorem SD_append (D : Nat → Bool) : ∀ (es : List (Ent U)) (k : Nat) (s : ASt U) (e : Ent U), SD D k s (es ++ [e]) = cond (D (k + es.length)) (app (SD D k s es) e) (SD D k s es) := by
 intro es
 induction es with
 | nil => intro k s e; rfl
 | cons x es ih =>
  intro k s e
  simp only [List.cons_append, SD, List.length_cons]
  rw [ih, Nat.add_assoc, Nat.add_comm 1]
theorem SD_take (es : List (Ent U)) (i : Nat) : ∀ (k : Nat) (s : ASt U), SD AL k s (es.take i) = SD (fun j => decide (j < k + i)) k s es := by
 induction es generalizing i with
 | nil => intro k s; simp [SD]
 | cons e es ih =>
  intro k s
  cases i with
  | zero =>
   rw [List.take_zero]
   exact (SD_none (e :: es) k s (fun j _ => by simp)).symm
  | succ i =>
   simp only [List.take_succ_cons, SD]
   rw [ih]
   have h1 : AL k = true := rfl
   have h2 : decide (k < k + (i + 1)) = true := by simp
   rw [h1, h2]
   have h3 : k + 1 + i = k + (i + 1) := by omega
   rw [h3]
def wantedA (ops : Array Oper) (s : ASt U) (o : Oper) : Prop :=
 o.guard = none ∨ ∃ g want d b, o.guard = some (g, want) ∧ dstAt ops g = some d ∧ s.look d = .bool b ∧ b = want
def notA (ops : Array Oper) (s : ASt U) (o : Oper) : Prop :=
 ∃ g want d, o.guard = some (g, want) ∧ dstAt ops g = some d ∧ ((∃ vs, s.look d = .raw (.tuple vs) ∧ vs.size = 0) ∨ ∃ b, s.look d = .bool b ∧ b ≠ want)
theorem wantedA_sound {E : Enc U} (h : RR E n N w0 ρ s a w) {o : Oper} (hw : wantedA ops s o) : Region.wanted o (yielded ops a.tmps) = true := by
 unfold Region.wanted
 rcases hw with hn | ⟨g, want, d, b, hg, hd, hb, rfl⟩
 ·rw [hn]
 ·rw [hg]
  simp [yielded_bool h hd hb]
theorem notA_sound {E : Enc U} (h : RR E n N w0 ρ s a w) {o : Oper} (hw : notA ops s o) : Region.wanted o (yielded ops a.tmps) = false := by
 unfold Region.wanted
 obtain ⟨g, want, d, hg, hd, hb⟩ := hw
 rw [hg]
 rcases hb with ⟨vs, hv, hz⟩ | ⟨b, hb, hne⟩
 ·have h1 := h.look d
  rw [hv] at h1
  have hy : yielded ops a.tmps g = none := by
   generalize hq : a.tmps.getD d undef = v at h1
   cases h1
   unfold yielded
   unfold dstAt at hd
   rw [hd]
   simp only [Option.bind_some]
   cases hz : a.tmps[d]? with
   | none => rfl
   | some v =>
    have : v = .tuple vs := by simpa [hz] using hq
    rw [this]
  simp [hy]
 ·simp [yielded_bool h hd hb, hne]
def EntOK (C : Cfg U) (n : Nat) (ops : Array Oper) (s0 : ASt U) (es : List (Ent U)) (i : Nat) : Prop :=
 ∀ h : i < es.length, ∃ o, ops[i]? = some o ∧ dstOk n o = true ∧ es[i].dst = o.dst ∧ es[i].looks = looksOf ops o ∧
  ((∃ cs, wantedA ops (SD AL 0 s0 (es.take i)) o ∧ aopA C.dm o (SD AL 0 s0 (es.take i)).eval (lookR es[i].ids (SD AL 0 s0 (es.take i)).objs) = some (cs, es[i].v, es[i].ob) ∧ conj cs ∧ ∀ d, o.dst = some d → C.off + d ∈ es[i].ids) ∨
   (notA ops (SD AL 0 s0 (es.take i)) o ∧ es[i].v = .raw undef ∧ es[i].ob = none))
theorem both_spec {cs : List Prop} {p : Prop} (h : both cs p) : conj cs ∧ p := by
 cases cs with
 | nil => exact ⟨trivial, h⟩
 | cons c cs => exact h
theorem EntOK_append {es : List (Ent U)} {e : Ent U} {i : Nat} (hi : i < es.length) (h : EntOK C n ops s0 es i) : EntOK C n ops s0 (es ++ [e]) i := by
 intro _
 have e1 : (es ++ [e])[i]'(by simp; omega) = es[i] := List.getElem_append_left hi
 have e2 : (es ++ [e]).take i = es.take i := by rw [List.take_append_of_le_length (by omega)]
 rw [e2]
 simp only [e1]
 exact h hi
theorem xdraw_sound : ∀ (r : List Oper) (es : List (Ent U)) (s : ASt U) (K : List (Ent U) → ASt U → Prop), (∀ j, r[j]? = ops[es.length + j]?) → s = SD AL 0 s0 es → (∀ i, i < es.length → EntOK C n ops s0 es i) → xdraw C n ops r es s K →
  ∃ es', es'.length = es.length + r.length ∧ (∀ i, i < es'.length → EntOK C n ops s0 es' i) ∧ K es' (SD AL 0 s0 es') := by
 intro r
 induction r with
 | nil =>
  intro es s K hr hs hes hx
  exact ⟨es, by simp, hes, by rw [← hs]; exact hx⟩
 | cons o r ih =>
  intro es s K hr hs hes hx
  have ho : ops[es.length]? = some o := by simpa using (hr 0).symm
  have hr' : ∀ (e : Ent U) j, r[j]? = ops[(es ++ [e]).length + j]? := fun e j => by
   have := hr (j + 1)
   simpa [Nat.add_assoc, Nat.add_comm 1 j] using this
  have go : ∀ (e : Ent U) (s' : ASt U), s' = app s e → (∃ o, ops[es.length]? = some o ∧ dstOk n o = true ∧ e.dst = o.dst ∧ e.looks = looksOf ops o ∧
    ((∃ cs, wantedA ops s o ∧ aopA C.dm o s.eval (lookR e.ids s.objs) = some (cs, e.v, e.ob) ∧ conj cs ∧ ∀ d, o.dst = some d → C.off + d ∈ e.ids) ∨ (notA ops s o ∧ e.v = .raw undef ∧ e.ob = none))) →
    xdraw C n ops r (es ++ [e]) s' K → ∃ es', es'.length = es.length + (o :: r).length ∧ (∀ i, i < es'.length → EntOK C n ops s0 es' i) ∧ K es' (SD AL 0 s0 es') := fun e s' hs' hok hx' => by
   obtain ⟨es', h1, h2, h3⟩ := ih (es ++ [e]) s' K (hr' e) (by rw [SD_append]; show s' = app (SD AL 0 s0 es) e; rw [hs', hs]) (fun i hi => by
    by_cases hc : i < es.length
    ·exact EntOK_append hc (hes i hc)
    ·have : i = es.length := by simp at hi; omega
     subst this
     intro _
     have e1 : (es ++ [e])[es.length]'(by simp) = e := by simp
     have e2 : (es ++ [e]).take es.length = es := by simp
     rw [e2]
     simp only [e1]
     rw [← hs]
     exact hok) hx'
   exact ⟨es', by rw [h1]; simp; omega, h2, h3⟩
  unfold xdraw at hx
  have hdo : dstOk n o = true := by
   cases hd : dstOk n o
   ·rw [hd] at hx; exact hx.elim
   ·rfl
  rw [hdo] at hx
  simp only [cond_true] at hx
  have hrun : wantedA ops s o → (match aopA C.dm o s.eval (lookR (idsOf C o s) s.objs) with
   | some (cs, v, ob) => both cs (xdraw C n ops r (es ++ [⟨o.dst, v, ob, looksOf ops o, idsOf C o s⟩]) ((s.putObj ob).put o.dst v) K)
   | none => False) → ∃ es', es'.length = es.length + (o :: r).length ∧ (∀ i, i < es'.length → EntOK C n ops s0 es' i) ∧ K es' (SD AL 0 s0 es') := fun hw hx => by
   split at hx
   ·rename_i cs v ob hop
    obtain ⟨hc, hx⟩ := both_spec hx
    refine go ⟨o.dst, v, ob, looksOf ops o, idsOf C o s⟩ _ rfl ⟨o, ho, hdo, rfl, rfl, .inl ⟨cs, hw, hop, hc, fun d hd => ?_⟩⟩ hx
    (unfold idsOf; split <;> simp [hd])
   ·exact hx.elim
  have hskip : notA ops s o → xdraw C n ops r (es ++ [⟨o.dst, .raw undef, none, looksOf ops o, []⟩]) (s.put o.dst (.raw undef)) K → ∃ es', es'.length = es.length + (o :: r).length ∧ (∀ i, i < es'.length → EntOK C n ops s0 es' i) ∧ K es' (SD AL 0 s0 es') := fun hw hx =>
   go ⟨o.dst, .raw undef, none, looksOf ops o, []⟩ _ rfl ⟨o, ho, hdo, rfl, rfl, .inr ⟨hw, rfl, rfl⟩⟩ hx
  split at hx
  ·rename_i hn
   exact hrun (.inl hn) hx
  ·rename_i g want hg
   split at hx
   ·exact hx.elim
   ·rename_i d hd
    split at hx
    ·rename_i vs hv
     cases hz : Nat.beq vs.size 0 with
     | false => rw [hz] at hx; exact hx.elim
     | true =>
      rw [hz] at hx
      exact hskip ⟨g, want, d, hg, hd, .inl ⟨vs, hv, Nat.eq_of_beq_eq_true hz⟩⟩ hx
    ·rename_i b hb
     have e : s.set d (.bool b) = s := by
      have hb := (look_some hb (fun e => by cases e)).2
      have : (s.set d (.bool b)).tmps = s.tmps := funext fun t => by
       show cond (Nat.beq t d) (.bool b) (s.tmps t) = s.tmps t
       by_cases ht : t = d
       ·subst ht
        rw [Nat.beq_refl]
        exact hb.symm
       ·rw [nbeq ht]
        rfl
      exact congrArg (ASt.mk · s.objs) this
     cases b <;> cases want
     ·simp only [cond_false, e] at hx
      exact hrun (.inr ⟨g, false, d, false, hg, hd, hb, rfl⟩) hx
     ·simp only [cond_true, e] at hx
      exact hskip ⟨g, true, d, hg, hd, .inr ⟨false, hb, by simp⟩⟩ hx
     ·simp only [cond_false, e] at hx
      exact hskip ⟨g, false, d, hg, hd, .inr ⟨true, hb, by simp⟩⟩ hx
     ·simp only [cond_true, e] at hx
      exact hrun (.inr ⟨g, true, d, true, hg, hd, hb, rfl⟩) hx
    ·exact hx.elim
theorem waits_F {ops : Array Oper} {o : Oper} {i : Nat} (f : Nat) (h : waits o i = true) : waitsF ops f o i = true := by
 cases f with
 | zero => exact h
 | succ f => rw [waitsF, h]; rfl
theorem chkOne_spec {ops : Array Oper} {o : Oper} {e : Ent U} : ∀ (xs : List (Ent U)) (i : Nat), chkOne ops o e i xs = true → ∀ j (h : j < xs.length), waitsF ops 3 o (i + j) = true ∨ apart2 xs[j] e = true := by
 intro xs
 induction xs with
 | nil => intro i _ j h; simp at h
 | cons x xs ih =>
  intro i h j hj
  simp only [chkOne, Bool.and_eq_true, Bool.or_eq_true] at h
  cases j with
  | zero =>
   rcases h.1 with (h | h) | h
   ·exact .inl (waits_F 3 h)
   ·exact .inr h
   ·exact .inl h
  | succ j =>
   have := ih (i + 1) h.2 j (by simpa using hj)
   rw [Nat.add_assoc, Nat.add_comm 1 j] at this
   exact this
theorem chkAll_spec {ops : Array Oper} : ∀ (os : List Oper) (done es : List (Ent U)), chkAll ops os done es = true → os.length = es.length → ∀ j (hj : j < os.length) (hj' : j < es.length),
  (∀ ed ∈ os[j].after.toList, Region.binds .any ed = true → ed.on < done.length + j) ∧ ∀ i (hi : i < done.length + j), waitsF ops 3 os[j] i = true ∨ apart2 ((done ++ es)[i]'(by simp; omega)) es[j] = true := by
 intro os
 induction os with
 | nil => intro done es _ _ j hj; simp at hj
 | cons o os ih =>
  intro done es h hlen j hj hj'
  cases es with
  | nil => simp at hj'
  | cons e es =>
   simp only [chkAll, Bool.and_eq_true] at h
   obtain ⟨⟨h1, h2⟩, h3⟩ := h
   cases j with
   | zero =>
    refine ⟨fun ed hed hb => ?_, fun i hi => ?_⟩
    ·have := List.all_eq_true.1 h1 ed hed
     rw [hb] at this
     simp only [Bool.not_true, Bool.false_or] at this
     exact Nat.le_of_ble_eq_true this
    ·have hi' : i < done.length := by simpa using hi
     have := chkOne_spec done 0 h2 i hi'
     rw [Nat.zero_add] at this
     simpa [List.getElem_append_left hi'] using this
   | succ j =>
    have := ih (done ++ [e]) es h3 (by simpa using hlen) j (by simpa using hj) (by simpa using hj')
    have hl : (done ++ [e]).length + j = done.length + (j + 1) := by simp; omega
    refine ⟨fun ed hed hb => by rw [← hl]; exact this.1 ed hed hb, fun i hi => ?_⟩
    have := this.2 i (by rw [hl]; exact hi)
    simpa using this
end
end Go.Vm
namespace Go.Vm
open Go.RowKit
set_option linter.unusedVariables false
section
variable {U : Univ} {n : Nat} {N : Nat → Prop} {w0 : Fr} {w w' : World} {ρ ρ' : Own} {s s' s0 : ASt U} {a : Act} {C : Cfg U} {ops : Array Oper}
theorem lookR_congr {ids : List Nat} {f g : Nat → Option (AObj U)} (h : ∀ id ∈ ids, f id = g id) : lookR ids f = lookR ids g := by
 funext id
 unfold lookR
 cases hc : ids.any (Nat.beq id) with
 | false => rfl
 | true =>
  obtain ⟨j, hj, hb⟩ := List.any_eq_true.1 hc
  obtain rfl := Nat.eq_of_beq_eq_true hb
  exact h _ hj
theorem aop_congr {o : Oper} {ev ev' : Operand → AVal U} {look : Nat → Option (AObj U)} (h : ∀ x ∈ o.op.operands, ev x = ev' x) : aop C o ev look = aop C o ev' look := by
 have pairs : ∀ ps : Array (Nat × Operand), (∀ x ∈ (ps.toList.map (·.2)).toArray, ev x = ev' x) → (ps.toList.map fun p => (p.1, ev p.2)) = (ps.toList.map fun p => (p.1, ev' p.2)) := fun ps hp =>
  List.map_congr_left fun p hm => by
   rw [hp p.2 (by simp only [List.mem_toArray, List.mem_map]; exact ⟨p, hm, rfl⟩)]
 obtain ⟨dst, op, ty, pos, after, guard⟩ := o
 unfold aop
 cases op <;> simp only [Op.operands] at h <;> (try rfl)
 case move x => simp only [h x (by simp)]
 case assign x => simp only [h x (by simp)]
 case pick c x y => simp only [h c (by simp), h x (by simp), h y (by simp)]
 case box t x => simp only [h x (by simp)]
 case build t ps => simp only [pairs ps h]
 case buildSlice t m ps => simp only [pairs ps h]
 case makeSlice t x y => simp only [h x (by simp), h y (by simp)]
 case load t x => simp only [h x (by simp)]
 case store t x y => simp only [h x (by simp), h y (by simp)]
 case binOp op t x y t' => simp only [h x (by simp), h y (by simp)]
 case unOp op t x => simp only [h x (by simp)]
 case nilCheck x => simp only [h x (by simp)]
 case makeInterface t x => simp only [h x (by simp)]
 case lookup t x y ok => simp only [h x (by simp), h y (by simp)]
 case makeFunc fn first captured =>
  have hmap : captured.toList.map ev = captured.toList.map ev' := List.map_congr_left fun x hx => h x (by simp; exact .inr (by simpa using hx))
  simp only [hmap]
 case fieldAddr t x f => simp only [h x (by simp)]
 case field t x f => simp only [h x (by simp)]
 case indexAddr t x y => simp only [h x (by simp), h y (by simp)]
 case index t x y => simp only [h x (by simp), h y (by simp)]
 case extract x i => simp only [h x (by simp)]
 case convert s d x => simp only [h x (by simp)]
 case slice t x lo hi mx =>
  cases mx with
  | some m => rfl
  | none => cases lo <;> cases hi <;> simp_all
 case call c =>
  obtain ⟨callee, args, argTypes⟩ := c
  have hargs : ∀ x ∈ args.toList, ev x = ev' x := fun x hx => h x (by simp [Call.operands]; exact .inr (by simpa using hx))
  have hmap : args.toList.map ev = args.toList.map ev' := List.map_congr_left hargs
  simp only [hmap]
  cases callee with
  | value f =>
   have hf := h f (by simp [Call.operands])
   simp only [hf]
  | invoke r m => rfl
  | builtin b =>
   cases b <;> (try rfl)
   case len =>
    simp only
    split
    ·rename_i x t hx ht
     rw [hargs x (by rw [hx]; simp)]
    ·rfl
   case append =>
    simp only
    split
    ·rename_i d x y hx
     rw [hargs x (by rw [hx]; simp), hargs y (by rw [hx]; simp)]
    ·rfl
theorem aopX_congr {o : Oper} {ev ev' : Operand → AVal U} {look : Nat → Option (AObj U)} (h : ∀ x ∈ o.op.operands, ev x = ev' x) : aopX C o ev look = aopX C o ev' look := by
 have pairs : ∀ ps : Array (Nat × Operand), (∀ x ∈ (ps.toList.map (·.2)).toArray, ev x = ev' x) → (ps.toList.map fun p => (p.1, ev p.2)) = (ps.toList.map fun p => (p.1, ev' p.2)) := fun ps hp =>
  List.map_congr_left fun p hm => by
   rw [hp p.2 (by simp only [List.mem_toArray, List.mem_map]; exact ⟨p, hm, rfl⟩)]
 obtain ⟨dst, op, ty, pos, after, guard⟩ := o
 unfold aopX
 cases op <;> simp only [Op.operands] at h <;> (try rfl)
 case buildSlice t m ps => simp only [pairs ps h]
 case store t x y => simp only [h x (by simp), h y (by simp)]
 case indexAddr t x y => simp only [h x (by simp), h y (by simp)]
 case slice t x lo hi mx =>
  cases mx with
  | some m => rfl
  | none => cases lo <;> cases hi <;> simp_all
 case call c =>
  obtain ⟨callee, args, argTypes⟩ := c
  have hargs : ∀ x ∈ args.toList, ev x = ev' x := fun x hx => h x (by simp [Call.operands]; exact .inr (by simpa using hx))
  simp only
  split
  ·rename_i x y hx
   rw [hargs x (by rw [hx]; simp), hargs y (by rw [hx]; simp)]
  ·rename_i x y hx
   rw [hargs x (by rw [hx]; simp), hargs y (by rw [hx]; simp)]
  ·rfl
theorem aopA_congr {o : Oper} {ev ev' : Operand → AVal U} {look : Nat → Option (AObj U)} (h : ∀ x ∈ o.op.operands, ev x = ev' x) : aopA C o ev look = aopA C o ev' look := by
 unfold aopA
 rw [aop_congr h, aopX_congr h]
structure Meets (ops : Array Oper) (es : List (Ent U)) : Prop where
 len : es.length = ops.size
 pre : ∀ j o, ops[j]? = some o → ∀ ed ∈ o.after, Region.binds .any ed = true → ed.on < j
 pair : ∀ i j (hi : i < es.length) (hj : j < es.length) o, i < j → ops[j]? = some o → waitsF ops 3 o i = true ∨ apart2 es[i] es[j] = true
theorem meets_of {es : List (Ent U)} (h : chkAll ops ops.toList [] es = true) (hl : es.length = ops.size) : Meets ops es := by
 have h1 := chkAll_spec (ops := ops) ops.toList [] es h (by simp [hl])
 refine ⟨hl, fun j o ho ed hed hb => ?_, fun i j hi hj o hij ho => ?_⟩
 ·have hj : j < ops.size := (Array.getElem?_eq_some_iff.1 ho).1
  have hoj := (Array.getElem?_eq_some_iff.1 ho).2
  have := (h1 j (by simpa using hj) (by omega)).1 ed (by
   simp only [Array.getElem_toList, hoj]
   simpa using hed) hb
  simpa using this
 ·have hj' : j < ops.size := by omega
  have hoj := (Array.getElem?_eq_some_iff.1 ho).2
  have := (h1 j (by simpa using hj') hj).2 i (by simpa using hij)
  simp only [Array.getElem_toList, hoj] at this
  simpa using this
theorem waits_spec {o : Oper} {i : Nat} (h : waits o i = true) : ∃ ed ∈ o.after, Region.binds .any ed = true ∧ ed.on = i := by
 obtain ⟨ed, hed, hb⟩ := List.any_eq_true.1 h
 simp only [Bool.and_eq_true] at hb
 exact ⟨ed, by simpa using hed, hb.1, Nat.eq_of_beq_eq_true hb.2⟩
def Closed (ops : Array Oper) (D : Nat → Bool) : Prop := ∀ j o, ops[j]? = some o → D j = true → ∀ ed ∈ o.after, Region.binds .any ed = true → D ed.on = true
theorem waitsF_spec {D : Nat → Bool} (hcl : Closed ops D) {i : Nat} : ∀ (f : Nat) (o : Oper), (∀ ed ∈ o.after, Region.binds .any ed = true → D ed.on = true) → waitsF ops f o i = true → D i = true := by
 have h0 : ∀ o : Oper, (∀ ed ∈ o.after, Region.binds .any ed = true → D ed.on = true) → waits o i = true → D i = true := fun o hp hw => by
  obtain ⟨ed, hed, hb, he⟩ := waits_spec hw
  rw [← he]
  exact hp ed hed hb
 intro f
 induction f with
 | zero => exact h0
 | succ f ih =>
  intro o hp hw
  rw [waitsF, Bool.or_eq_true] at hw
  rcases hw with hw | hw
  ·exact h0 o hp hw
  ·obtain ⟨ed, hed, hb⟩ := List.any_eq_true.1 hw
   simp only [Bool.and_eq_true] at hb
   obtain ⟨hb, _, hb2⟩ := hb
   have hD := hp ed (by simpa using hed) hb
   split at hb2
   ·rename_i o' ho'
    exact ih o' (fun ed' hed' hb' => hcl _ _ ho' hD ed' hed' hb') hb2
   ·cases hb2
theorem any_beq_mem {l : List Nat} {d : Nat} : l.any (Nat.beq d) = true ↔ d ∈ l := by
 rw [List.any_eq_true]
 constructor
 ·rintro ⟨x, hx, hb⟩
  obtain rfl := Nat.eq_of_beq_eq_true hb
  exact hx
 ·intro h
  exact ⟨d, h, Nat.beq_refl d⟩
theorem later_not {es : List (Ent U)} (hm : Meets ops es) {D : Nat → Bool} (hcl : Closed ops D) {i : Nat} (hun : D i = false) {j : Nat} (hj : j < es.length) (hw : ∀ oj, ops[j]? = some oj → waitsF ops 3 oj i = true) : D j = false := by
 have hjs : j < ops.size := by rw [← hm.len]; exact hj
 have hoj : ops[j]? = some ops[j] := Array.getElem?_eq_getElem hjs
 cases hD : D j with
 | false => rfl
 | true =>
  have := waitsF_spec hcl 3 _ (fun ed hed hb => hcl j _ hoj hD ed hed hb) (hw _ hoj)
  rw [hun] at this
  cases this
theorem countP_one {i : Nat} {f g : Nat → Bool} : ∀ (m : Nat), i < m → f i = true → g i = false → (∀ k, k < m → k ≠ i → g k = f k) → (List.range m).countP g + 1 = (List.range m).countP f := by
 intro m
 induction m with
 | zero => intro h; omega
 | succ m ih =>
  intro hi hf hg h
  rw [List.range_succ, List.countP_append, List.countP_append]
  by_cases hm : m = i
  ·subst hm
   have e : (List.range m).countP g = (List.range m).countP f := List.countP_congr (fun k hk => by
    have hk' : k < m := by simpa using hk
    rw [h k (by omega) (by omega)])
   simp [e, hf, hg]
  ·have := ih (by omega) hf hg (fun k hk hne => h k (by omega) hne)
   have e := h m (by omega) hm
   simp only [List.countP_cons, List.countP_nil, e]
   omega
section
variable {es : List (Ent U)} (hm : Meets ops es) {D : Nat → Bool} (hcl : Closed ops D) {i : Nat} (hi : i < es.length) (hun : D i = false) {o : Oper} (ho : ops[i]? = some o)
 (hpre : ∀ ed ∈ o.after, Region.binds .any ed = true → D ed.on = true)
include hm hcl hun ho hpre
theorem SD_looks {t : Nat} (ht : t ∈ es[i].looks) : (SD D 0 s0 es).tmps t = (SD AL 0 s0 (es.take i)).tmps t := by
 rw [SD_take]
 refine SD_tmps_congr es 0 s0 s0 rfl (fun k hk hd => ?_)
 simp only [Nat.zero_add]
 rcases Nat.lt_trichotomy k i with hlt | rfl | hgt
 ·have e : decide (k < i) = true := by simpa using hlt
  rw [e]
  rcases hm.pair k i hk hi o hlt ho with hw | hap
  ·exact waitsF_spec hcl 3 _ hpre hw
  ·simp only [apart2, hd, Bool.and_eq_true, Bool.not_eq_true'] at hap
   have := hap.1.1.1.1
   rw [any_beq_mem.2 ht] at this
   cases this
 ·have e : decide (k < k) = false := by simp
  rw [e, hun]
 ·have e : decide (k < i) = false := by simp; omega
  rw [e]
  refine later_not hm hcl hun hk (fun oj hoj => ?_)
  rcases hm.pair i k hi hk oj hgt hoj with hw | hap
  ·exact hw
  ·simp only [apart2, hd, Bool.and_eq_true, Bool.not_eq_true'] at hap
   have := hap.1.1.2
   rw [any_beq_mem.2 ht] at this
   cases this
theorem SD_ids {id : Nat} (ht : id ∈ es[i].ids) : (SD D 0 s0 es).objs id = (SD AL 0 s0 (es.take i)).objs id := by
 rw [SD_take]
 refine SD_objs_congr es 0 s0 s0 rfl (fun k hk hd => ?_)
 simp only [Nat.zero_add]
 have hob : ∃ x, es[k].ob = some (id, x) := by
  unfold wid at hd
  cases hob : es[k].ob with
  | none => rw [hob] at hd; cases hd
  | some p =>
   rw [hob] at hd
   obtain ⟨j, x⟩ := p
   simp only [Option.map_some, Option.some.injEq] at hd
   subst hd
   exact ⟨x, rfl⟩
 obtain ⟨x, hob⟩ := hob
 rcases Nat.lt_trichotomy k i with hlt | rfl | hgt
 ·have e : decide (k < i) = true := by simpa using hlt
  rw [e]
  rcases hm.pair k i hk hi o hlt ho with hw | hap
  ·exact waitsF_spec hcl 3 _ hpre hw
  ·simp only [apart2, hob, Bool.and_eq_true, Bool.not_eq_true'] at hap
   have := hap.1.2.1
   rw [any_beq_mem.2 ht] at this
   cases this
 ·have e : decide (k < k) = false := by simp
  rw [e, hun]
 ·have e : decide (k < i) = false := by simp; omega
  rw [e]
  refine later_not hm hcl hun hk (fun oj hoj => ?_)
  rcases hm.pair i k hi hk oj hgt hoj with hw | hap
  ·exact hw
  ·simp only [apart2, hob, Bool.and_eq_true, Bool.not_eq_true'] at hap
   have := hap.2
   rw [any_beq_mem.2 ht] at this
   cases this
end
theorem SD_step {es : List (Ent U)} (hm : Meets ops es) {D : Nat → Bool} (hcl : Closed ops D) {i : Nat} (hi : i < es.length) (hun : D i = false) {D' : Nat → Bool} (hD' : ∀ k, k < es.length → D' k = (D k || decide (k = i))) : app (SD D 0 s0 es) es[i] = SD D' 0 s0 es := by
 have hD'i : D' i = true := by rw [hD' i hi]; simp
 refine ASt.ext' (fun t => ?_) (fun id => ?_)
 ·rw [app_tmps]
  by_cases hd : es[i].dst = some t
  ·rw [if_pos hd]
   refine (SD_tmps_last es 0 s0 i hi (by rw [Nat.zero_add]; exact hD'i) hd (fun j hj hij hdj => ?_)).symm
   rw [Nat.zero_add, hD' j hj]
   have hne : ¬ j = i := by omega
   simp only [hne, decide_false, Bool.or_false]
   refine later_not hm hcl hun hj (fun oj hoj => ?_)
   rcases hm.pair i j hi hj oj hij hoj with hw | hap
   ·exact hw
   ·simp only [apart2, hd, hdj, Bool.and_eq_true, Bool.not_eq_true'] at hap
    have := hap.1.1.1.2
    rw [Nat.beq_refl] at this
    cases this
  ·rw [if_neg hd]
   refine SD_tmps_congr es 0 s0 s0 rfl (fun k hk hdk => ?_)
   rw [Nat.zero_add, hD' k hk]
   have hne : ¬ k = i := fun e => by subst e; exact hd hdk
   simp [hne]
 ·rw [app_objs]
  by_cases hd : wid es[i] = some id
  ·rw [if_pos hd]
   refine (SD_objs_last es 0 s0 i hi (by rw [Nat.zero_add]; exact hD'i) hd (fun j hj hij hdj => ?_)).symm
   rw [Nat.zero_add, hD' j hj]
   have hne : ¬ j = i := by omega
   simp only [hne, decide_false, Bool.or_false]
   refine later_not hm hcl hun hj (fun oj hoj => ?_)
   rcases hm.pair i j hi hj oj hij hoj with hw | hap
   ·exact hw
   ·exfalso
    unfold wid at hd hdj
    cases hob : es[i].ob with
    | none => rw [hob] at hd; cases hd
    | some p =>
     cases hob' : es[j].ob with
     | none => rw [hob'] at hdj; cases hdj
     | some q =>
      rw [hob] at hd
      rw [hob'] at hdj
      obtain ⟨x, _⟩ := p
      obtain ⟨y, _⟩ := q
      simp only [Option.map_some, Option.some.injEq] at hd hdj
      subst hd
      subst hdj
      simp only [apart2, hob, hob', Bool.and_eq_true, Bool.not_eq_true'] at hap
      have := hap.1.2.2
      rw [Nat.beq_refl] at this
      cases this
  ·rw [if_neg hd]
   refine SD_objs_congr es 0 s0 s0 rfl (fun k hk hdk => ?_)
   rw [Nat.zero_add, hD' k hk]
   have hne : ¬ k = i := fun e => by subst e; exact hd hdk
   simp [hne]
theorem mem_looks {o : Oper} {x : Operand} (hx : x ∈ o.op.operands) {t : Nat} (ht : x = .tmp t) : t ∈ looksOf ops o := by
 unfold looksOf
 refine List.mem_append.2 (.inl (List.mem_filterMap.2 ⟨x, by simpa using hx, by rw [ht]⟩))
theorem guard_looks {o : Oper} {g d : Nat} {want : Bool} (hg : o.guard = some (g, want)) (hd : dstAt ops g = some d) : d ∈ looksOf ops o := by
 unfold looksOf
 rw [hg]
 simp [hd]
theorem any_sound (hs : SumAt C w0) {es : List (Ent U)} (hm : Meets ops es) (hes : ∀ i, i < es.length → EntOK C n ops s0 es i) {Q : Exit → Act → World → Prop}
  (hK : ∀ ρ a w, RR C.E n N w0 ρ (SD AL 0 s0 es) a w → Q .normal a w) :
  ∀ (fuel : Nat) (listed : Array Bool) (ρ : Own) (a : Act) (w : World), listed.size = ops.size → ((List.range ops.size).countP fun k => !listed.getD k true) ≤ fuel → Closed ops (fun k => listed.getD k true) →
   RR C.E n N w0 ρ (SD (fun k => listed.getD k true) 0 s0 es) a w → wpAny C.P .any ops Q fuel listed a w := by
 have done : ∀ (listed : Array Bool), (∀ k, k < ops.size → listed.getD k true = true) → SD (fun k => listed.getD k true) 0 s0 es = SD AL 0 s0 es := fun listed h => by
  refine ASt.ext' (fun t => SD_tmps_congr es 0 s0 s0 rfl (fun k hk _ => ?_)) (fun id => SD_objs_congr es 0 s0 s0 rfl (fun k hk _ => ?_))
  ·rw [Nat.zero_add]; exact h k (by rw [← hm.len]; exact hk)
  ·rw [Nat.zero_add]; exact h k (by rw [← hm.len]; exact hk)
 have ready_nil : ∀ (listed : Array Bool), listed.size = ops.size → Region.ready .any ops listed = [] → ∀ k, k < ops.size → listed.getD k true = true := fun listed hsz hr k => by
  induction k using Nat.strongRecOn with
  | _ k ih =>
   intro hk
   cases hc : listed.getD k true with
   | true => rfl
   | false =>
    have hok : ops[k]? = some ops[k] := Array.getElem?_eq_getElem hk
    have : k ∈ Region.ready .any ops listed := mem_ready.2 ⟨hc, ops[k], hok, fun e he hb => by
     have hlt := hm.pre k _ hok e he hb
     have h2 := ih e.on hlt (by omega)
     have h3 : e.on < listed.size := by omega
     simpa [h3] using h2⟩
    rw [hr] at this
    cases this
 intro fuel
 induction fuel with
 | zero =>
  intro listed ρ a w hsz hcount hcl hR
  have hall : ∀ k, k < ops.size → listed.getD k true = true := fun k hk => by
   have h0 : ((List.range ops.size).countP fun k => !listed.getD k true) = 0 := by omega
   have := List.countP_eq_zero.1 h0 k (by simpa using hk)
   simpa using this
  refine ⟨?_, hK ρ a w (by rw [← done listed hall]; exact hR)⟩
  rw [List.eq_nil_iff_forall_not_mem]
  intro k hk
  obtain ⟨h1, o, h2, _⟩ := mem_ready.1 hk
  rw [hall k (Array.getElem?_eq_some_iff.1 h2).1] at h1
  cases h1
 | succ fuel ih =>
  intro listed ρ a w hsz hcount hcl hR
  refine ⟨fun h0 => hK ρ a w (by rw [← done listed (ready_nil listed hsz h0)]; exact hR), fun i hi => ?_⟩
  obtain ⟨hun, o, ho, hpre⟩ := mem_ready.1 hi
  have his : i < ops.size := (Array.getElem?_eq_some_iff.1 ho).1
  have hie : i < es.length := by rw [hm.len]; exact his
  have hpre' : ∀ ed ∈ o.after, Region.binds .any ed = true → (fun k => listed.getD k true) ed.on = true := fun ed hed hb => by
   have := hpre ed hed hb
   have hlt := hm.pre i o ho ed hed hb
   have h3 : ed.on < listed.size := by omega
   simpa [h3] using this
  obtain ⟨o', ho', hdo, hdst, hlooks, hcase⟩ := hes i hie hie
  rw [ho] at ho'
  obtain rfl := Option.some.inj ho'
  -- the state when i is done too
  have hset : ∀ k, k < es.length → (listed.setIfInBounds i true).getD k true = (listed.getD k true || decide (k = i)) := fun k hk => by
   have hks : k < listed.size := by rw [hsz, ← hm.len]; exact hk
   by_cases hki : k = i
   ·subst hki
    simp [hks]
   ·rw [getD_set_ne true (Ne.symm hki)]
    simp [hki]
  have hstep := SD_step (s0 := s0) hm hcl hie hun (D' := fun k => (listed.setIfInBounds i true).getD k true) hset
  have hcl' : Closed ops (fun k => (listed.setIfInBounds i true).getD k true) := fun j oj hoj hD ed hed hb => by
   have hjs : j < ops.size := (Array.getElem?_eq_some_iff.1 hoj).1
   have hlt := hm.pre j oj hoj ed hed hb
   have h1 := hset j (by rw [hm.len]; exact hjs)
   have h2 := hset ed.on (by rw [hm.len]; omega)
   simp only at hD ⊢
   rw [h1] at hD
   rw [h2]
   simp only [Bool.or_eq_true, decide_eq_true_eq] at hD ⊢
   rcases hD with hD | rfl
   ·exact .inl (hcl j oj hoj hD ed hed hb)
   ·rw [ho] at hoj
    obtain rfl := Option.some.inj hoj
    exact .inl (hpre' ed hed hb)
  have hcount' : ((List.range ops.size).countP fun k => !(listed.setIfInBounds i true).getD k true) ≤ fuel := by
   have h1 := countP_one (i := i) (f := fun k => !listed.getD k true) (g := fun k => !(listed.setIfInBounds i true).getD k true) ops.size his (by simp [hun]) (by
    have := hset i hie
    simp [this]) (fun k hk hne => by
    have := hset k (by rw [hm.len]; exact hk)
    simp [this, hne])
   omega
  have hnext : ∀ ρ' a' w', RR C.E n N w0 ρ' (app (SD (fun k => listed.getD k true) 0 s0 es) es[i]) a' w' → wpAny C.P .any ops Q fuel (listed.setIfInBounds i true) a' w' := fun ρ' a' w' hR' =>
   ih _ ρ' a' w' (by simpa using hsz) hcount' hcl' (by rw [← hstep]; exact hR')
  have htm : ∀ t ∈ looksOf ops o, (SD (fun k => listed.getD k true) 0 s0 es).tmps t = (SD AL 0 s0 (es.take i)).tmps t := fun t ht => SD_looks hm hcl hie hun ho hpre' (by rw [hlooks]; exact ht)
  have hlkt : ∀ t ∈ looksOf ops o, (SD (fun k => listed.getD k true) 0 s0 es).look t = (SD AL 0 s0 (es.take i)).look t := fun t ht => by
   unfold ASt.look
   rw [htm t ht]
  unfold wpOp
  simp only [ho]
  rcases hcase with ⟨cs, hw, hop, hc, hdid⟩ | ⟨hw, hv, hob⟩
  ·have hw' : wantedA ops (SD (fun k => listed.getD k true) 0 s0 es) o := by
    rcases hw with hn | ⟨g, want, d, b, hg, hd, hb, he⟩
    ·exact .inl hn
    ·exact .inr ⟨g, want, d, b, hg, hd, by rw [hlkt d (guard_looks hg hd)]; exact hb, he⟩
   rw [if_pos (wantedA_sound hR hw')]
   refine .inl ?_
   have hev : ∀ x ∈ o.op.operands, (SD (fun k => listed.getD k true) 0 s0 es).eval x = (SD AL 0 s0 (es.take i)).eval x := fun x hx => by
    cases x with
    | tmp t => exact hlkt t (mem_looks hx rfl)
    | _ => rfl
   have hlk : lookR es[i].ids (SD (fun k => listed.getD k true) 0 s0 es).objs = lookR es[i].ids (SD AL 0 s0 (es.take i)).objs :=
    lookR_congr (fun id hid => SD_ids hm hcl hie hun ho hpre' hid)
   have hop' : aopA C.dm o (SD (fun k => listed.getD k true) 0 s0 es).eval (lookR es[i].ids (SD (fun k => listed.getD k true) 0 s0 es).objs) = some (cs, es[i].v, es[i].ob) := by
    rw [aopA_congr hev, hlk]
    exact hop
   refine aopA_sound (C := C.dm) hs hR (fun id ob h => ?_) (fun d hd h => ?_) (dstOk_lt hdo) hop' hc (fun ρ' u w' hR' => hnext ρ' _ w' ?_)
   ·unfold lookR at h
    cases hc : es[i].ids.any (Nat.beq id) <;> rw [hc] at h
    ·cases h
    ·exact h
   ·change lookR es[i].ids _ (C.off + d) = none at h
    unfold lookR at h
    rw [any_beq_mem.2 (hdid d hd)] at h
    exact h
   ·unfold app
    rw [hdst]
    exact hR'
  ·have hw' : notA ops (SD (fun k => listed.getD k true) 0 s0 es) o := by
    obtain ⟨g, want, d, hg, hd, hb⟩ := hw
    have e := hlkt d (guard_looks hg hd)
    refine ⟨g, want, d, hg, hd, ?_⟩
    rcases hb with ⟨vs, hv, hz⟩ | ⟨b, hb, hne⟩
    ·exact .inl ⟨vs, by rw [e]; exact hv, hz⟩
    ·exact .inr ⟨b, by rw [e]; exact hb, hne⟩
   rw [if_neg (by rw [notA_sound hR hw']; simp)]
   refine hnext ρ _ w ?_
   unfold app
   rw [hdst, hv, hob]
   exact hR.put o.dst (dstOk_lt hdo) (.raw _)
theorem draw_sound (hs : SumAt C w0) (hmix : C.P.follows .mixedOrders = true) {id : Nat} {Q : Exit → Act → World → Prop} (h : RR C.E n N w0 ρ s0 a w) {K : ASt U → Prop}
  (hx : xdraw C n ops ops.toList [] s0 (fun es s' => chkAll ops ops.toList [] es = true ∧ K s')) (hK : ∀ s' ρ' a' w', K s' → RR C.E n N w0 ρ' s' a' w' → Q .normal a' w') : (Code.region id ops true).wp C.P Q a w := by
 obtain ⟨es, hlen, hes, hchk, hKs⟩ := xdraw_sound (s0 := s0) ops.toList [] s0 _ (fun j => by simp) rfl (fun i hi => absurd hi (by simp)) hx
 have hl : es.length = ops.size := by simpa using hlen
 refine wp_region_any hmix (any_sound (N := N) (w0 := w0) hs (meets_of hchk hl) hes (fun ρ' a' w' hR => hK _ ρ' a' w' hKs hR) ops.size (Array.replicate ops.size false) ρ a _ (by simp) ?_ ?_ ?_)
 ·exact Nat.le_trans List.countP_le_length (by simp)
 ·intro j o ho hD
  have hj : j < ops.size := (Array.getElem?_eq_some_iff.1 ho).1
  simp [hj] at hD
 ·have : SD (fun k => (Array.replicate ops.size false).getD k true) 0 s0 es = s0 := SD_none es 0 s0 (fun i hi => by
   have : i < ops.size := by omega
   simp [this])
  rw [this]
  exact h.drew
end
end Go.Vm
namespace Go.Vm
open Go.RowKit
set_option linter.unusedVariables false
inductive Slot where
 | tmp (t : Nat)
 | cell (id off : Nat)
structure Canon (U : Univ) where
 keep : List Nat
 cells : List Nat
 own : List (Slot × Nat × U.τ)
 soft : List (Slot × U.τ)
 deep : List Nat := []
section
variable {U : Univ}
def okCell (p : Nat → Bool) : AVal U → Bool
 | .ptr id _ => p id
 | .eptr _ _ _ _ _ => false
 | .osl id _ => p id
 | .any => true
 | c => stays 4 c
def okIds (p : Nat → Bool) : AVal U → Bool
 | .agg l => l.all (okCell p)
 | .tup l => l.all (okCell p)
 | .fn _ l => l.all (okCell p)
 | .ref l _ => l.all (okCell p)
 | c => okCell p c
def slotVal (s : ASt U) : Slot → Option (AVal U)
 | .tmp t => some (s.tmps t)
 | .cell id off => match s.objs id with
  | some (.cells l) => l[off]?
  | _ => none
def slotRow (s : ASt U) (sl : Slot) (τ : U.τ) (d : Bool) : Option (Option Nat × List (U.T τ)) :=
 match slotVal s sl with
 | some .nils => cond (!d || Nat.beq (U.size τ) 1) (some (none, [])) none
 | some (.osl j g) => match s.objs j with
  | some (.row t g' xs) => cond (Nat.beq g g' && !d) (match castRow τ t xs with
   | some ys => some (some j, ys)
   | none => none) none
  | some (.deep t g' _ xs) => cond (Nat.beq g g' && d) (match castRow τ t xs with
   | some ys => some (some j, ys)
   | none => none) none
  | _ => none
 | _ => none
def isOwnTmp (own : List (Slot × Nat × U.τ)) (t : Nat) : Option Nat :=
 match own with
 | [] => none
 | (.tmp t', id, _) :: r => cond (Nat.beq t t') (some id) (isOwnTmp r t)
 | _ :: r => isOwnTmp r t
def isOwnCell (own : List (Slot × Nat × U.τ)) (i k : Nat) : Option Nat :=
 match own with
 | [] => none
 | (.cell i' k', id, _) :: r => cond (Nat.beq i i' && Nat.beq k k') (some id) (isOwnCell r i k)
 | _ :: r => isOwnCell r i k
def patch1 (own : List (Slot × Nat × U.τ)) (i k : Nat) (c : AVal U) : AVal U :=
 match isOwnCell own i k with
 | some id => .osl id 0
 | none => c
def patch (own : List (Slot × Nat × U.τ)) (i : Nat) : Nat → List (AVal U) → List (AVal U)
 | _, [] => []
 | k, c :: cs => patch1 own i k c :: patch own i (k + 1) cs
def patchOk (own : List (Slot × Nat × U.τ)) (i : Nat) (p : Nat → Bool) : Nat → List (AVal U) → Bool
 | _, [] => true
 | k, c :: cs => (match isOwnCell own i k with
  | some _ => true
  | none => okCell p c) && patchOk own i p (k + 1) cs
def keepTmps (s : ASt U) (own : List (Slot × Nat × U.τ)) (p : Nat → Bool) : List Nat → Option (Nat → AVal U)
 | [] => some fun _ => .any
 | t :: ts => match keepTmps s own p ts with
  | some f => match isOwnTmp own t with
   | some id => some fun u => cond (Nat.beq u t) (.osl id 0) (f u)
   | none => cond (okIds p (s.tmps t)) (some fun u => cond (Nat.beq u t) (s.tmps t) (f u)) none
  | none => none
def keepCells (s : ASt U) (own : List (Slot × Nat × U.τ)) (p : Nat → Bool) : List Nat → Option (Nat → Option (AObj U))
 | [] => some fun _ => none
 | i :: is => match keepCells s own p is, s.objs i with
  | some f, some (.cells l) => cond (patchOk own i p 0 l) (some fun u => cond (Nat.beq u i) (some (.cells (patch own i 0 l))) (f u)) none
  | some f, some (.row t g xs) => some fun u => cond (Nat.beq u i) (some (.row t g xs)) (f u)
  | some f, some (.opq k d) => some fun u => cond (Nat.beq u i) (some (.opq k d)) (f u)
  | some f, some (.rowF t g xs k m gm) => cond (p m) (some fun u => cond (Nat.beq u i) (some (.rowF t g xs k m gm)) (f u)) none
  | _, _ => none
def keepRows (s : ASt U) (dp : List Nat) (f : Nat → Option (AObj U)) : List (Slot × Nat × U.τ) → Option ((Nat → Option (AObj U)) × List Nat)
 | [] => some (f, [])
 | (sl, id, τ) :: r => match keepRows s dp f r, slotRow s sl τ (dp.any (Nat.beq id)) with
  | some (h, js), some (j, xs) => match h id with
   | none => match j with
    | some j => cond (js.any (Nat.beq j) || (f j).isSome) none (some (fun u => cond (Nat.beq u id) (some (NewRow.obj ⟨dp.any (Nat.beq id), τ, xs⟩)) (h u), j :: js))
    | none => some (fun u => cond (Nat.beq u id) (some (NewRow.obj ⟨dp.any (Nat.beq id), τ, xs⟩)) (h u), js)
   | some _ => none
  | _, _ => none
def soft1 (τ : U.τ) : AVal U → AVal U
 | .nils => .sl τ []
 | x => x
def softAt (τ : U.τ) : Nat → List (AVal U) → List (AVal U)
 | _, [] => []
 | 0, c :: cs => soft1 τ c :: cs
 | k + 1, c :: cs => c :: softAt τ k cs
def softSlot (s : ASt U) : Slot × U.τ → ASt U
 | (.tmp t, τ) => ⟨fun u => cond (Nat.beq u t) (soft1 τ (s.tmps t)) (s.tmps u), s.objs⟩
 | (.cell i k, τ) => match s.objs i with
  | some (.cells l) => ⟨s.tmps, fun u => cond (Nat.beq u i) (some (.cells (softAt τ k l))) (s.objs u)⟩
  | _ => s
def soften : List (Slot × U.τ) → ASt U → ASt U
 | [], s => s
 | x :: l, s => soften l (softSlot s x)
def freezeObj (s : ASt U) (j : Nat) : ASt U :=
 match s.objs j with
 | some (.rowF t g xs i m gm) => match s.objs m with
  | some (.row t1 gm' ys) => match Nat.beq gm gm', U.unsl t t1 ys with
   | true, some y => (s.obj m (.row t1 (gm + 1) [])).obj j (.row t g (xs.set i y))
   | _, _ => s
  | _ => s
 | some (.deepF t g gm xs m gq) => match s.objs m with
  | some (.row t1 gm' ys) => match Nat.beq gq gm', U.unsl t t1 ys with
   | true, some y => (s.obj m (.row t1 (gq + 1) [])).obj j (.deep t g gm (xs ++ [y]))
   | _, _ => s
  | _ => s
 | _ => s
def freezeSlot (s : ASt U) (x : Slot × Nat × U.τ) : ASt U :=
 match slotVal s x.1 with
 | some (.osl j _) => freezeObj s j
 | _ => s
def freezeAll : List (Slot × Nat × U.τ) → ASt U → ASt U
 | [], s => s
 | x :: l, s => freezeAll l (freezeSlot s x)
def canon0 (m : Canon U) (s : ASt U) : Option (ASt U) :=
 match keepTmps s m.own (fun i => m.cells.any (Nat.beq i)) m.keep, keepCells s m.own (fun i => m.cells.any (Nat.beq i)) m.cells with
 | some f, some g => match keepRows s m.deep g m.own with
  | some (h, _) => some ⟨f, h⟩
  | none => none
 | _, _ => none
def canon (m : Canon U) (s : ASt U) : Option (ASt U) := canon0 m (freezeAll m.own (soften m.soft s))
end
end Go.Vm
namespace Go.Vm
open Go.RowKit
set_option linter.unusedVariables false
section
variable {U : Univ} {E : Enc U} {n : Nat} {N : Nat → Prop} {w0 : Fr} {w w' : World} {ρ ρ' : Own} {s s' : ASt U} {a : Act}
theorem okCell_rel {st st' : Nat → Prop} {p : Nat → Bool} {x : AVal U} {v : Value} (hx : okCell p x = true) (hρ : ∀ id g u, p id = true → ρ id = some (g, u) → ρ' id = some (g, u)) (hst : ∀ b, st b → st' b)
  (h : Rel E w ρ st x v) : Rel E w ρ' st' x v := by
 have hflat : stays 4 x = true → Rel E w ρ' st' x v := fun hf => (stays_rel (ρ' := fun _ => none) 4 _ _ hf h).mono (fun b hb => ⟨hst b hb, rfl⟩) (fun _ _ _ hr => by cases hr)
 cases x with
 | ptr id off =>
  cases h with
  | ptr _ _ b hb => exact .ptr id off b (hρ _ _ _ hx hb)
 | any => exact .any _
 | eptr => cases hx
 | osl id g =>
  cases h with
  | osl _ _ u hr hp => exact .osl id g _ (hρ _ _ _ hx hr) hp
  | oslOld _ _ g' u v hr hg => exact .oslOld id g g' u _ (hρ _ _ _ hx hr) hg
 | _ => exact hflat hx
theorem okIds_rel {st st' : Nat → Prop} {p : Nat → Bool} {x : AVal U} {v : Value} (hx : okIds p x = true) (hρ : ∀ id g u, p id = true → ρ id = some (g, u) → ρ' id = some (g, u)) (hst : ∀ b, st b → st' b)
  (h : Rel E w ρ st x v) : Rel E w ρ' st' x v := by
 cases x with
 | agg l =>
  cases h with
  | agg _ vs hn hl => exact .agg l vs hn (fun k hk => okCell_rel (List.all_eq_true.1 hx _ (List.getElem_mem hk)) hρ hst (hl k hk))
 | tup l =>
  cases h with
  | tup _ vs hn hl => exact .tup l vs hn (fun k hk => okCell_rel (List.all_eq_true.1 hx _ (List.getElem_mem hk)) hρ hst (hl k hk))
 | fn f l =>
  cases h with
  | fn _ _ vs hn hl => exact .fn f l vs hn (fun k hk => okCell_rel (List.all_eq_true.1 hx _ (List.getElem_mem hk)) hρ hst (hl k hk))
 | ref l off =>
  cases h with
  | ref _ _ b o f hb hc hl => exact .ref l off b o f (hst b hb) hc (fun k hk => okCell_rel (List.all_eq_true.1 hx _ (List.getElem_mem hk)) hρ hst (hl k hk))
 | _ => exact okCell_rel hx hρ hst h
def SlotIs (F : Fr) (s : ASt U) (ρ : Own) (a : Act) (w : World) : Slot → Value → Prop
 | .tmp t, u => a.valAt F t = u
 | .cell i k, u => ∃ l b c ty, s.objs i = some (.cells l) ∧ ρ i = some (0, .pointer (some ⟨b, 0, none⟩)) ∧ w.heap[b]? = some (.cells c ty (0, 0)) ∧ k < l.length ∧ c.getD k undef = u
theorem slot_rel (h : RR E n N w0 ρ s a w) {sl : Slot} {x : AVal U} (hv : slotVal s sl = some x) : ∃ u, SlotIs w0 s ρ a w sl u ∧ Rel E w ρ (Stab N ρ w) x u := by
 cases sl with
 | tmp t =>
  simp only [slotVal, Option.some.injEq] at hv
  subst hv
  exact ⟨_, rfl, h.tmps t⟩
 | cell i k =>
  simp only [slotVal] at hv
  split at hv
  ·rename_i l hl
   obtain ⟨b, c, ty, h1, h2, h3, h4, h5⟩ := h.objs _ _ hl
   have hk := (List.getElem?_eq_some_iff.1 hv).1
   have hx := (List.getElem?_eq_some_iff.1 hv).2
   refine ⟨_, ⟨l, b, c, ty, hl, h1, h3, hk, rfl⟩, ?_⟩
   rw [← hx]
   exact h5 k hk
  ·cases hv
def RowIs (E : Enc U) (N : Nat → Prop) (w0 : Fr) (ρ : Own) (w : World) (j : Option Nat) (x : NewRow U) (u : Value) : Prop :=
 ∃ ρ1 : Own, ρ1 (.ob 0) = some (0, u) ∧ (∀ nm v q, ρ1 nm = some (q, v) → nm.id = 0 ∧ q = 0) ∧ (∀ i, ρ1 (.mem 0 i) = match x.1, j with
   | true, some j => (ρ (.mem j i)).map fun p => (0, p.2)
   | _, _ => none) ∧ RelObj E w ρ1 (Stab N ρ w) w0.heap.size 0 x.obj
theorem flat_names {ρ ρ' : Own} {st : Nat → Prop} {c : AVal U} {v : Value} (hc : c.flat = true) (h : Rel E w ρ st c v) : Rel E w ρ' st c v := h.flat hc
theorem slotRow_sound (h : RR E n N w0 ρ s a w) {sl : Slot} {τ : U.τ} {d : Bool} {j : Option Nat} {xs : List (U.T τ)} (hr : slotRow s sl τ d = some (j, xs)) :
  ∃ u, SlotIs w0 s ρ a w sl u ∧ (∀ a, u ≠ .pointer a) ∧ RowIs E N w0 ρ w j ⟨d, τ, xs⟩ u ∧ (j = none → u = .slice none 0 0) ∧ ∀ i, j = some i → ∃ g ob, ρ i = some (g, u) ∧ s.objs i = some ob := by
 unfold slotRow at hr
 split at hr
 ·rename_i hv
  have hbr := cond_some hr
  clear hr
  obtain ⟨hb, hr⟩ := hbr
  simp only [Option.some.injEq, Prod.mk.injEq] at hr
  obtain ⟨rfl, rfl⟩ := hr
  obtain ⟨u, hu, hrel⟩ := slot_rel h hv
  cases hrel
  refine ⟨_, hu, (fun a e => by cases e), ⟨fun nm => match nm with | .ob 0 => some (0, .slice none 0 0) | _ => none, rfl, fun nm v q hr => ?_, fun i => ?_, ?_⟩, (fun _ => rfl), (fun i e => by cases e)⟩
  ·simp only at hr
   split at hr
   ·cases hr
    exact ⟨rfl, rfl⟩
   ·cases hr
  ·cases d <;> rfl
  ·cases d with
   | false => exact ⟨_, [], rfl, (fun a e => by cases e), World.ownsRow_nil _ _ _ _, fun i hi => absurd hi (by simp)⟩
   | true =>
    refine ⟨_, [], rfl, (fun a e => by cases e), World.ownsRow_nil _ _ _ _, ?_, fun _ _ => rfl, fun i hi => absurd hi (by simp)⟩
    simp only [Bool.not_true, Bool.false_or] at hb
    exact Nat.eq_of_beq_eq_true hb
 ·rename_i j' g hv
  split at hr
  ·rename_i t g' ys hl
   have hbr := cond_some hr
   clear hr
   obtain ⟨hb, hr⟩ := hbr
   simp only [Bool.and_eq_true, Bool.not_eq_true'] at hb
   obtain ⟨hb1, rfl⟩ := hb
   obtain rfl := Nat.eq_of_beq_eq_true hb1
   split at hr
   ·rename_i zs hz
    simp only [Option.some.injEq, Prod.mk.injEq] at hr
    obtain ⟨rfl, rfl⟩ := hr
    obtain ⟨rfl, rfl⟩ := castRow_spec hz
    obtain ⟨u, hu, hrel⟩ := slot_rel h hv
    obtain ⟨u1, cs, h1, hp, h2, h3⟩ := h.objs _ _ hl
    have hue : u1 = u := by
     cases hrel with
     | osl _ _ u' hr' hp' =>
      rw [h1] at hr'
      simp only [Option.some.injEq, Prod.mk.injEq, true_and] at hr'
      exact hr'
     | oslOld _ _ g' u' v hr' hg =>
      rw [h1] at hr'
      simp only [Option.some.injEq, Prod.mk.injEq] at hr'
      omega
    subst hue
    refine ⟨u1, hu, hp, ⟨fun nm => match nm with | .ob 0 => some (0, u1) | _ => none, rfl, fun nm v q hr => ?_, fun i => rfl, ⟨u1, cs, rfl, hp, h2, fun i hi k hk => flat_names (E.enc_flat _ _ _ (List.getElem_mem hk)).1 (h3 i hi k hk)⟩⟩, (fun e => by cases e), fun i e => ?_⟩
    ·simp only at hr
     split at hr
     ·cases hr
      exact ⟨rfl, rfl⟩
     ·cases hr
    ·obtain rfl := Option.some.inj e
     exact ⟨g, _, h1, hl⟩
   ·cases hr
  ·rename_i t g' gm ys hl
   have hbr := cond_some hr
   clear hr
   obtain ⟨hb, hr⟩ := hbr
   simp only [Bool.and_eq_true] at hb
   obtain ⟨hb1, rfl⟩ := hb
   obtain rfl := Nat.eq_of_beq_eq_true hb1
   split at hr
   ·rename_i zs hz
    simp only [Option.some.injEq, Prod.mk.injEq] at hr
    obtain ⟨rfl, rfl⟩ := hr
    obtain ⟨rfl, rfl⟩ := castRow_spec hz
    obtain ⟨u, hu, hrel⟩ := slot_rel h hv
    obtain ⟨u1, cs, h1, hp, h2, hs, hno, h3⟩ := h.objs _ _ hl
    have hue : u1 = u := by
     cases hrel with
     | osl _ _ u' hr' hp' =>
      rw [h1] at hr'
      simp only [Option.some.injEq, Prod.mk.injEq, true_and] at hr'
      exact hr'
     | oslOld _ _ g' u' v hr' hg =>
      rw [h1] at hr'
      simp only [Option.some.injEq, Prod.mk.injEq] at hr'
      omega
    subst hue
    refine ⟨u1, hu, hp, ⟨fun nm => match nm with | .ob 0 => some (0, u1) | .mem 0 i => (ρ (.mem j' i)).map (fun p => (0, p.2)) | _ => none, rfl, fun nm v q hr => ?_, fun i => rfl, ⟨u1, cs, rfl, hp, h2, hs, fun i hi => ?_, fun i hi => ?_⟩⟩, (fun e => by cases e), fun i e => ?_⟩
    ·simp only at hr
     split at hr
     ·cases hr
      exact ⟨rfl, rfl⟩
     ·simp only [Option.map_eq_some_iff] at hr
      obtain ⟨p, _, e⟩ := hr
      cases e
      exact ⟨rfl, rfl⟩
     ·cases hr
    ·show (ρ (.mem j' i)).map _ = none
     rw [hno i hi]
     rfl
    ·obtain ⟨t1, ys1, v1, ds, r1, r2, r3, r4, r5, r6⟩ := h3 i hi
     exact ⟨t1, ys1, v1, ds, r1, by show (ρ (.mem j' i)).map _ = _; rw [r2]; rfl, r3, r4, r5, fun i hi k hk => flat_names (E.enc_flat _ _ _ (List.getElem_mem hk)).1 (r6 i hi k hk)⟩
    ·obtain rfl := Option.some.inj e
     exact ⟨g, _, h1, hl⟩
   ·cases hr
  ·cases hr
 ·cases hr
structure Pack (E : Enc U) (n : Nat) (N : Nat → Prop) (w0 : Fr) (ρ : Own) (s : ASt U) (a : Act) (w : World) (g : Nat → Option (AObj U)) (own : List (Slot × Nat × U.τ)) (h : Nat → Option (AObj U)) (js : List Nat)
  (ρ' : Own) (sg : Nat → Option Nat) : Prop where
 obs : ∀ id ob, h id = some ob → (g id = some ob ∧ ∀ nm : Name, nm.id = id → ρ' nm = ρ nm) ∨ (g id = none ∧ ∃ x : NewRow U, ob = x.obj ∧ RelObj E w ρ' (Stab N ρ w) w0.heap.size id x.obj)
 old : ∀ id ob, g id = some ob → h id = some ob ∧ ∀ nm : Name, nm.id = id → ρ' nm = ρ nm
 dom : ∀ nm q u, ρ' nm = some (q, u) → ∃ ob, h nm.id = some ob ∧ (ob.simple = true → ∃ k, nm = .ob k)
 src : ∀ nm q u b, ρ' nm = some (q, u) → blk u = some b → ∃ j q0, sg nm.id = some j ∧ ρ (nm.at j) = some (q0, u)
 inj : ∀ i i' j, sg i = some j → sg i' = some j → i = i'
 sgin : ∀ i j, sg i = some j → ((∃ ob, g j = some ob) ∧ i = j) ∨ j ∈ js
 slots : ∀ sl id τ, (sl, id, τ) ∈ own → ∃ u, ρ' (.ob id) = some (0, u) ∧ SlotIs w0 s ρ a w sl u ∧ ∀ a, u ≠ .pointer a
theorem Pack.sep {g h : Nat → Option (AObj U)} {own : List (Slot × Nat × U.τ)} {js : List Nat} {sg : Nat → Option Nat} (hR : RR E n N w0 ρ s a w) (P : Pack E n N w0 ρ s a w g own h js ρ' sg) :
  ∀ nm nm' q q' u u' b, ρ' nm = some (q, u) → ρ' nm' = some (q', u') → nm ≠ nm' → blk u = some b → blk u' ≠ some b := by
 intro nm nm' q q' u u' b hr hr' hne hb hb'
 obtain ⟨j, q0, h1, h2⟩ := P.src _ _ _ b hr hb
 obtain ⟨j', q0', h1', h2'⟩ := P.src _ _ _ b hr' hb'
 refine hR.sep _ _ _ _ _ _ b h2 h2' (fun e => ?_) hb hb'
 have hj : j = j' := by
  have := congrArg Name.id e
  rwa [Name.at_id, Name.at_id] at this
 subst hj
 exact hne (Name.at_inj (P.inj _ _ _ h1 h1') e)
theorem keepRows_sound (hR : RR E n N w0 ρ s a w) {dp : List Nat} {g : Nat → Option (AObj U)} (hg : ∀ id ob, g id = some ob → ∃ ob', s.objs id = some ob' ∧ (ob.simple = true → ob'.simple = true)) :
  ∀ (own : List (Slot × Nat × U.τ)) (h : Nat → Option (AObj U)) (js : List Nat), keepRows s dp g own = some (h, js) → ∃ ρ' sg, Pack E n N w0 ρ s a w g own h js ρ' sg := by
 intro own
 induction own with
 | nil =>
  intro h js hk
  simp only [keepRows, Option.some.injEq, Prod.mk.injEq] at hk
  obtain ⟨rfl, rfl⟩ := hk
  have hin : ∀ {nm : Name} {q : Nat} {u : Value}, (if (g nm.id).isSome then ρ nm else none) = some (q, u) → (∃ ob, g nm.id = some ob) ∧ ρ nm = some (q, u) := fun {nm q u} hr => by
   split at hr
   ·rename_i hs
    exact ⟨Option.isSome_iff_exists.1 hs, hr⟩
   ·cases hr
  refine ⟨fun nm => if (g nm.id).isSome then ρ nm else none, fun i => if (g i).isSome then some i else none, fun id ob ho => .inl ⟨ho, fun nm hn => by simp [hn, ho]⟩, fun id ob ho => ⟨ho, fun nm hn => by simp [hn, ho]⟩, fun nm q u hr => ?_, fun nm q u b hr _ => ?_, fun i i' j h1 h2 => ?_, fun i j h1 => ?_, fun _ _ _ hm => by simp at hm⟩
  ·obtain ⟨⟨ob, ho⟩, hr⟩ := hin hr
   refine ⟨ob, ho, fun hs => ?_⟩
   obtain ⟨ob', q1, q2⟩ := hg _ _ ho
   obtain ⟨ob2, q3, q4⟩ := hR.dom _ _ _ hr
   rw [q1] at q3
   cases q3
   exact q4 (q2 hs)
  ·obtain ⟨⟨ob, ho⟩, hr⟩ := hin hr
   exact ⟨nm.id, q, by simp [ho], by rw [Name.at_self]; exact hr⟩
  ·split at h1
   ·split at h2
    ·cases h1
     cases h2
     rfl
    ·cases h2
   ·cases h1
  ·split at h1
   ·rename_i hs
    cases h1
    exact .inl ⟨Option.isSome_iff_exists.1 hs, rfl⟩
   ·cases h1
 | cons o own ih =>
  intro h js hk
  obtain ⟨sl, id, τ⟩ := o
  simp only [keepRows] at hk
  generalize hd : dp.any (Nat.beq id) = d at hk
  split at hk
  ·rename_i h1 js1 j xs hk1 hrow
   split at hk
   ·rename_i hnone
    obtain ⟨ρ1, sg1, P⟩ := ih h1 js1 hk1
    obtain ⟨u, hslot, hup, ⟨ρx, x1, x2, x3, x4⟩, hnil, hj⟩ := slotRow_sound hR hrow
    have hfree : ∀ nm : Name, nm.id = id → ρ1 nm = none := fun nm hn => by
     cases hq : ρ1 nm with
     | none => rfl
     | some p =>
      obtain ⟨ob, ho, _⟩ := P.dom nm p.1 p.2 hq
      rw [hn, hnone] at ho
      cases ho
    have hgn : g id = none := by
     cases hq : g id with
     | none => rfl
     | some ob =>
      have := (P.old id ob hq).1
      rw [hnone] at this
      cases this
    -- the new row, whichever list of old names
    have build : ∀ (js' : List Nat), (∀ i ∈ js1, i ∈ js') → (∀ i, j = some i → i ∈ js' ∧ i ∉ js1 ∧ g i = none) →
      ∃ ρ' sg, Pack E n N w0 ρ s a w g ((sl, id, τ) :: own) (fun q => cond (Nat.beq q id) (some (NewRow.obj ⟨d, τ, xs⟩)) (h1 q)) js' ρ' sg := fun js' hj2 hj3 => by
     have hh : ∀ q, (cond (Nat.beq q id) (some (NewRow.obj ⟨d, τ, xs⟩)) (h1 q)) = if q = id then some (NewRow.obj ⟨d, τ, xs⟩) else h1 q := fun q => by
      by_cases hq : q = id
      ·subst hq
       rw [Nat.beq_refl, if_pos rfl]
       rfl
      ·rw [nbeq hq, if_neg hq]
       rfl
     let ρ2 : Own := fun nm => if nm.id = id then ρx (nm.at 0) else ρ1 nm
     have in2 : ∀ nm : Name, nm.id = id → ρ2 nm = ρx (nm.at 0) := fun nm hn => by show (if _ then _ else _) = _; rw [if_pos hn]
     have out2 : ∀ nm : Name, ¬ nm.id = id → ρ2 nm = ρ1 nm := fun nm hn => by show (if _ then _ else _) = _; rw [if_neg hn]
     have hobj : RelObj E w ρ2 (Stab N ρ w) w0.heap.size id (NewRow.obj ⟨d, τ, xs⟩) := by
      refine x4.join (Nat.le_refl _) (fun _ _ => rfl) (in2 (.ob id) rfl) (fun i => in2 (.mem id i) rfl) (fun t z c v _ _ hc hv => flat_names (E.enc_flat t z c hc).1 hv)
     refine ⟨ρ2, fun q => if q = id then j else sg1 q, fun q ob ho => ?_, fun q ob ho => ?_, fun nm gq uq hr => ?_, fun nm gq uq b hr hb => ?_, fun i i' k e1 e2 => ?_, fun i k e1 => ?_, fun sl' id' τ' hm => ?_⟩
     ·rw [hh] at ho
      split at ho
      ·rename_i hq
       subst hq
       obtain rfl := Option.some.inj ho
       exact .inr ⟨hgn, _, rfl, hobj⟩
      ·rename_i hq
       rcases P.obs q ob ho with ⟨h2, h3⟩ | ⟨h2, x, h3, h4⟩
       ·exact .inl ⟨h2, fun nm hn => by rw [out2 nm (by rw [hn]; exact hq)]; exact h3 nm hn⟩
       ·refine .inr ⟨h2, x, h3, ?_⟩
        exact h4.join (Nat.le_refl _) (fun _ _ => rfl) (out2 (.ob q) hq) (fun i => out2 (.mem q i) hq) (fun t z c v _ _ hc hv => flat_names (E.enc_flat t z c hc).1 hv)
     ·have hq : q ≠ id := fun e => by subst e; rw [hgn] at ho; cases ho
      obtain ⟨h2, h3⟩ := P.old q ob ho
      exact ⟨by rw [hh, if_neg hq]; exact h2, fun nm hn => by rw [out2 nm (by rw [hn]; exact hq)]; exact h3 nm hn⟩
     ·by_cases hq : nm.id = id
      ·refine ⟨_, by rw [hh, if_pos hq], fun hs => ?_⟩
       have hd0 : d = false := (NewRow.obj_deep ⟨d, τ, xs⟩ hs : _)
       cases nm with
       | ob k => exact ⟨k, rfl⟩
       | mem k i =>
        rw [in2 _ hq] at hr
        have hr' : ρx (.mem 0 i) = some (gq, uq) := hr
        rw [x3 i, hd0] at hr'
        cases hr'
      ·rw [out2 nm hq] at hr
       obtain ⟨ob, ho, hs⟩ := P.dom nm gq uq hr
       exact ⟨ob, by rw [hh, if_neg hq]; exact ho, hs⟩
     ·by_cases hq : nm.id = id
      ·rw [in2 _ hq] at hr
       cases hjj : j with
       | none =>
        cases nm with
        | ob k =>
         have hr' : ρx (.ob 0) = some (gq, uq) := hr
         rw [x1] at hr'
         cases hr'
         rw [hnil hjj] at hb
         cases hb
        | mem k i =>
         have hr' : ρx (.mem 0 i) = some (gq, uq) := hr
         rw [x3 i, hjj] at hr'
         cases d <;> cases hr'
       | some i =>
        refine ⟨i, ?_⟩
        cases nm with
        | ob k =>
         have hr' : ρx (.ob 0) = some (gq, uq) := hr
         rw [x1] at hr'
         cases hr'
         obtain ⟨g0, ob, h2, h3⟩ := hj i hjj
         exact ⟨g0, by rw [if_pos hq], h2⟩
        | mem k i2 =>
         have hr' : ρx (.mem 0 i2) = some (gq, uq) := hr
         rw [x3 i2, hjj] at hr'
         cases d with
         | false => cases hr'
         | true =>
          simp only [Option.map_eq_some_iff] at hr'
          obtain ⟨p, hp, e⟩ := hr'
          cases e
          exact ⟨p.1, by rw [if_pos hq], hp⟩
      ·rw [out2 nm hq] at hr
       obtain ⟨k, q0, h2, h3⟩ := P.src nm gq uq b hr hb
       exact ⟨k, q0, by rw [if_neg hq]; exact h2, h3⟩
     ·have key : ∀ i' k, ¬ i' = id → j = some k → sg1 i' = some k → False := fun i' k hi' hjk hs => by
       obtain ⟨_, q1, q2⟩ := hj3 k hjk
       rcases P.sgin i' k hs with ⟨⟨ob, ho⟩, _⟩ | hm
       ·rw [q2] at ho; cases ho
       ·exact q1 hm
      by_cases hi : i = id
      ·rw [if_pos hi] at e1
       by_cases hi' : i' = id
       ·rw [hi, hi']
       ·rw [if_neg hi'] at e2
        exact (key i' k hi' e1 e2).elim
      ·rw [if_neg hi] at e1
       by_cases hi' : i' = id
       ·rw [if_pos hi'] at e2
        exact (key i k hi e2 e1).elim
       ·rw [if_neg hi'] at e2
        exact P.inj _ _ _ e1 e2
     ·by_cases hi : i = id
      ·rw [if_pos hi] at e1
       exact .inr (hj3 k e1).1
      ·rw [if_neg hi] at e1
       rcases P.sgin i k e1 with h2 | h2
       ·exact .inl h2
       ·exact .inr (hj2 k h2)
     ·rcases List.mem_cons.1 hm with e | hm
      ·simp only [Prod.mk.injEq] at e
       obtain ⟨rfl, rfl, rfl⟩ := e
       exact ⟨u, by rw [in2 _ rfl]; exact x1, hslot, hup⟩
      ·obtain ⟨u', h2, h3, h4⟩ := P.slots sl' id' τ' hm
       have hq : id' ≠ id := fun e => by
        subst e
        rw [hfree (.ob id') rfl] at h2
        cases h2
       exact ⟨u', by rw [out2 (.ob id') hq]; exact h2, h3, h4⟩
    split at hk
    ·rename_i i
     cases hany2 : (js1.any (Nat.beq i) || (g i).isSome) with
     | true => rw [hany2] at hk; cases hk
     | false =>
      rw [hany2] at hk
      simp only [cond_false, Option.some.injEq, Prod.mk.injEq] at hk
      simp only [Bool.or_eq_false_iff] at hany2
      obtain ⟨hany, hgi⟩ := hany2
      obtain ⟨rfl, rfl⟩ := hk
      refine build (i :: js1) (fun q hq => List.mem_cons_of_mem _ hq) (fun q hq => ?_)
      obtain rfl := Option.some.inj hq
      refine ⟨List.mem_cons_self, fun hm => ?_, by simpa using hgi⟩
      have := any_beq_mem.2 hm
      rw [hany] at this
      cases this
    ·simp only [Option.some.injEq, Prod.mk.injEq] at hk
     obtain ⟨rfl, rfl⟩ := hk
     exact build js1 (fun q hq => hq) (fun q hq => by cases hq)
   ·cases hk
  ·cases hk
end
end Go.Vm
namespace Go.Vm
open Go.RowKit
set_option linter.unusedVariables false
section
variable {U : Univ} {E : Enc U} {n : Nat} {N : Nat → Prop} {w0 : Fr} {w w' : World} {ρ ρ' : Own} {s s' : ASt U} {a : Act}
theorem isOwnTmp_mem {own : List (Slot × Nat × U.τ)} {t id : Nat} (h : isOwnTmp own t = some id) : ∃ τ, (.tmp t, id, τ) ∈ own := by
 induction own with
 | nil => cases h
 | cons o own ih =>
  obtain ⟨sl, i, τ⟩ := o
  cases sl with
  | tmp t' =>
   simp only [isOwnTmp] at h
   cases hb : Nat.beq t t' with
   | true =>
    rw [hb] at h
    obtain rfl := Option.some.inj h
    obtain rfl := Nat.eq_of_beq_eq_true hb
    exact ⟨τ, List.mem_cons_self⟩
   | false =>
    rw [hb] at h
    obtain ⟨τ', hm⟩ := ih h
    exact ⟨τ', List.mem_cons_of_mem _ hm⟩
  | cell i' k' =>
   simp only [isOwnTmp] at h
   obtain ⟨τ', hm⟩ := ih h
   exact ⟨τ', List.mem_cons_of_mem _ hm⟩
theorem isOwnCell_mem {own : List (Slot × Nat × U.τ)} {i k id : Nat} (h : isOwnCell own i k = some id) : ∃ τ, (.cell i k, id, τ) ∈ own := by
 induction own with
 | nil => cases h
 | cons o own ih =>
  obtain ⟨sl, j, τ⟩ := o
  cases sl with
  | tmp t' =>
   simp only [isOwnCell] at h
   obtain ⟨τ', hm⟩ := ih h
   exact ⟨τ', List.mem_cons_of_mem _ hm⟩
  | cell i' k' =>
   simp only [isOwnCell] at h
   cases hb : (Nat.beq i i' && Nat.beq k k') with
   | true =>
    rw [hb] at h
    obtain rfl := Option.some.inj h
    simp only [Bool.and_eq_true] at hb
    obtain rfl := Nat.eq_of_beq_eq_true hb.1
    obtain rfl := Nat.eq_of_beq_eq_true hb.2
    exact ⟨τ, List.mem_cons_self⟩
   | false =>
    rw [hb] at h
    obtain ⟨τ', hm⟩ := ih h
    exact ⟨τ', List.mem_cons_of_mem _ hm⟩
theorem cond_beq {α : Type} (u t : Nat) (x y : α) : cond (Nat.beq u t) x y = if u = t then x else y := by
 by_cases h : u = t
 ·subst h
  rw [Nat.beq_refl, if_pos rfl]
  rfl
 ·rw [nbeq h, if_neg h]
  rfl
theorem keepTmps_spec {own : List (Slot × Nat × U.τ)} {p : Nat → Bool} : ∀ (l : List Nat) (f : Nat → AVal U), keepTmps s own p l = some f →
  ∀ t, f t = .any ∨ (∃ id τ, (.tmp t, id, τ) ∈ own ∧ f t = .osl id 0) ∨ (f t = s.tmps t ∧ okIds p (s.tmps t) = true) := by
 intro l
 induction l with
 | nil =>
  intro f hf t
  obtain rfl := Option.some.inj hf
  exact .inl rfl
 | cons u l ih =>
  intro f hf t
  simp only [keepTmps] at hf
  split at hf
  ·rename_i f' hf'
   split at hf
   ·rename_i id hid
    obtain rfl := Option.some.inj hf
    simp only [cond_beq]
    by_cases h : t = u
    ·subst h
     obtain ⟨τ, hm⟩ := isOwnTmp_mem hid
     exact .inr (.inl ⟨id, τ, hm, by rw [if_pos rfl]⟩)
    ·rw [if_neg h]
     exact ih f' hf' t
   ·have hfb := cond_some hf
    clear hf
    obtain ⟨hb, hf⟩ := hfb
    obtain rfl := Option.some.inj hf
    simp only [cond_beq]
    by_cases h : t = u
    ·subst h
     exact .inr (.inr ⟨by rw [if_pos rfl], hb⟩)
    ·rw [if_neg h]
     exact ih f' hf' t
  ·cases hf
theorem keepCells_spec {own : List (Slot × Nat × U.τ)} {p : Nat → Bool} : ∀ (l : List Nat) (g : Nat → Option (AObj U)), keepCells s own p l = some g →
  ∀ id ob, g id = some ob → id ∈ l ∧ ((∃ cs, s.objs id = some (.cells cs) ∧ ob = .cells (patch own id 0 cs) ∧ patchOk own id p 0 cs = true) ∨
   s.objs id = some ob ∧ ((∃ t q xs, ob = .row t q xs) ∨ (∃ t q xs k m gm, ob = .rowF t q xs k m gm ∧ p m = true) ∨ ∃ k d, ob = .opq k d)) := by
 intro l
 induction l with
 | nil =>
  intro g hg id ob ho
  obtain rfl := Option.some.inj hg
  cases ho
 | cons i l ih =>
  intro g hg id ob ho
  simp only [keepCells] at hg
  split at hg
  ·rename_i g' cs hg' hcs
   have hgb := cond_some hg
   clear hg
   obtain ⟨hb, hg⟩ := hgb
   obtain rfl := Option.some.inj hg
   simp only [cond_beq] at ho
   by_cases h : id = i
   ·subst h
    rw [if_pos rfl] at ho
    obtain rfl := Option.some.inj ho
    exact ⟨List.mem_cons_self, .inl ⟨cs, hcs, rfl, hb⟩⟩
   ·rw [if_neg h] at ho
    obtain ⟨h1, h2⟩ := ih g' hg' id ob ho
    exact ⟨List.mem_cons_of_mem _ h1, h2⟩
  ·rename_i g' t q xs hg' hcs
   obtain rfl := Option.some.inj hg
   simp only [cond_beq] at ho
   by_cases h : id = i
   ·subst h
    rw [if_pos rfl] at ho
    obtain rfl := Option.some.inj ho
    exact ⟨List.mem_cons_self, .inr ⟨hcs, .inl ⟨t, q, xs, rfl⟩⟩⟩
   ·rw [if_neg h] at ho
    obtain ⟨h1, h2⟩ := ih g' hg' id ob ho
    exact ⟨List.mem_cons_of_mem _ h1, h2⟩
  ·rename_i g' k d hg' hcs
   obtain rfl := Option.some.inj hg
   simp only [cond_beq] at ho
   by_cases h : id = i
   ·subst h
    rw [if_pos rfl] at ho
    obtain rfl := Option.some.inj ho
    exact ⟨List.mem_cons_self, .inr ⟨hcs, .inr (.inr ⟨k, d, rfl⟩)⟩⟩
   ·rw [if_neg h] at ho
    obtain ⟨h1, h2⟩ := ih g' hg' id ob ho
    exact ⟨List.mem_cons_of_mem _ h1, h2⟩
  ·rename_i g' t q xs k m gm hg' hcs
   have hgb := cond_some hg
   clear hg
   obtain ⟨hb, hg⟩ := hgb
   obtain rfl := Option.some.inj hg
   simp only [cond_beq] at ho
   by_cases h : id = i
   ·subst h
    rw [if_pos rfl] at ho
    obtain rfl := Option.some.inj ho
    exact ⟨List.mem_cons_self, .inr ⟨hcs, .inr (.inl ⟨t, q, xs, k, m, gm, rfl, hb⟩)⟩⟩
   ·rw [if_neg h] at ho
    obtain ⟨h1, h2⟩ := ih g' hg' id ob ho
    exact ⟨List.mem_cons_of_mem _ h1, h2⟩
  ·cases hg
theorem keepCells_all {own : List (Slot × Nat × U.τ)} {p : Nat → Bool} : ∀ (l : List Nat) (g : Nat → Option (AObj U)), keepCells s own p l = some g → ∀ id ∈ l, ∃ ob, g id = some ob := by
 intro l
 induction l with
 | nil => intro g hg id hid; simp at hid
 | cons i l ih =>
  intro g hg id hid
  have key : ∀ (g' : Nat → Option (AObj U)) (o : AObj U), keepCells s own p l = some g' → g = (fun u => cond (Nat.beq u i) (some o) (g' u)) → ∃ ob, g id = some ob := fun g' o hg' e => by
   subst e
   simp only [cond_beq]
   by_cases h : id = i
   ·subst h
    exact ⟨_, by rw [if_pos rfl]⟩
   ·rw [if_neg h]
    rcases List.mem_cons.1 hid with e | hid
    ·exact absurd e h
    ·exact ih g' hg' id hid
  simp only [keepCells] at hg
  split at hg
  ·rename_i g' cs hg' hcs
   exact key g' _ hg' (Option.some.inj (cond_some hg).2).symm
  ·rename_i g' t q xs hg' hcs
   exact key g' _ hg' (Option.some.inj hg).symm
  ·rename_i g' k d hg' hcs
   exact key g' _ hg' (Option.some.inj hg).symm
  ·rename_i g' t q xs k m gm hg' hcs
   exact key g' _ hg' (Option.some.inj (cond_some hg).2).symm
  ·cases hg
theorem patch_length (own : List (Slot × Nat × U.τ)) (i : Nat) : ∀ (cs : List (AVal U)) (k : Nat), (patch own i k cs).length = cs.length := by
 intro cs
 induction cs with
 | nil => intro k; rfl
 | cons c cs ih => intro k; simp [patch, ih]
theorem patch_get (own : List (Slot × Nat × U.τ)) (i : Nat) : ∀ (cs : List (AVal U)) (k j : Nat) (h : j < cs.length), (patch own i k cs)[j]'(by rw [patch_length]; exact h) = patch1 own i (k + j) cs[j] := by
 intro cs
 induction cs with
 | nil => intro k j h; simp at h
 | cons c cs ih =>
  intro k j h
  cases j with
  | zero => rfl
  | succ j =>
   simp only [patch, List.getElem_cons_succ]
   rw [ih (k + 1) j (by simpa using h), Nat.add_assoc, Nat.add_comm 1 j]
theorem patchOk_get {own : List (Slot × Nat × U.τ)} {i : Nat} {p : Nat → Bool} : ∀ (cs : List (AVal U)) (k : Nat), patchOk own i p k cs = true → ∀ j (h : j < cs.length), isOwnCell own i (k + j) = none → okCell p cs[j] = true := by
 intro cs
 induction cs with
 | nil => intro k _ j h; simp at h
 | cons c cs ih =>
  intro k hk j h hn
  simp only [patchOk, Bool.and_eq_true] at hk
  cases j with
  | zero =>
   rw [Nat.add_zero] at hn
   rw [hn] at hk
   exact hk.1
  | succ j =>
   rw [← Nat.add_assoc, Nat.add_right_comm] at hn
   exact ih (k + 1) hk.2 j (by simpa using h) hn
theorem soft1_rel {st : Nat → Prop} {τ : U.τ} {x : AVal U} {v : Value} (h : Rel E w ρ st x v) : Rel E w ρ st (soft1 τ x) v := by
 cases x with
 | nils =>
  cases h
  exact .sl0 τ
 | _ => exact h
theorem softAt_length (τ : U.τ) : ∀ (l : List (AVal U)) (k : Nat), (softAt τ k l).length = l.length := by
 intro l
 induction l with
 | nil => intro k; cases k <;> rfl
 | cons c l ih =>
  intro k
  cases k with
  | zero => rfl
  | succ k => simp [softAt, ih]
theorem softAt_rel {st : Nat → Prop} {τ : U.τ} : ∀ (l : List (AVal U)) (k : Nat) (f : Nat → Value), (∀ j (h : j < l.length), Rel E w ρ st l[j] (f j)) → ∀ j (h : j < (softAt τ k l).length), Rel E w ρ st (softAt τ k l)[j] (f j) := by
 intro l
 induction l with
 | nil =>
  intro k f _ j h
  rw [softAt_length] at h
  exact absurd h (by simp)
 | cons c l ih =>
  intro k f hf j h
  cases k with
  | zero =>
   cases j with
   | zero => exact soft1_rel (hf 0 (by simp))
   | succ j => exact hf (j + 1) (by simpa [softAt] using h)
  | succ k =>
   cases j with
   | zero => exact hf 0 (by simp)
   | succ j => exact ih k (fun i => f (i + 1)) (fun i hi => hf (i + 1) (by simpa using hi)) j (by simpa [softAt] using h)
theorem softSlot_sound (hR : RR E n N w0 ρ s a w) (x : Slot × U.τ) : RR E n N w0 ρ (softSlot s x) a w := by
 obtain ⟨sl, τ⟩ := x
 cases sl with
 | tmp t =>
  refine ⟨hR.defers, hR.size, fun u => ?_, hR.objs, hR.dom, hR.sep, hR.below, hR.nlt, hR.kept, hR.free, hR.pin, hR.nle⟩
  show Rel E w ρ _ (cond (Nat.beq u t) (soft1 τ (s.tmps t)) (s.tmps u)) _
  rw [cond_beq]
  split
  ·rename_i e
   subst e
   exact soft1_rel (hR.tmps u)
  ·exact hR.tmps u
 | cell i k =>
  simp only [softSlot]
  split
  ·rename_i l hl
   refine ⟨hR.defers, hR.size, hR.tmps, fun id ob ho => ?_, fun nm g u hr => ?_, hR.sep, hR.below, hR.nlt, hR.kept, hR.free, fun id u hp => by
    obtain ⟨⟨ob, ho⟩, h2⟩ := hR.pin id u hp
    refine ⟨?_, h2⟩
    simp only [cond_beq]
    split
    ·exact ⟨_, rfl⟩
    ·exact ⟨ob, ho⟩, hR.nle⟩
   ·simp only [cond_beq] at ho
    split at ho
    ·rename_i e
     subst e
     obtain rfl := Option.some.inj ho
     obtain ⟨b, c, ty, h1, h2, h3, h4, h5⟩ := hR.objs _ _ hl
     exact ⟨b, c, ty, h1, h2, h3, by rw [softAt_length]; exact h4, softAt_rel l k _ h5⟩
    ·exact hR.objs _ _ ho
   ·obtain ⟨ob, q1, q2⟩ := hR.dom _ _ _ hr
    by_cases e : nm.id = i
    ·refine ⟨.cells (softAt τ k l), by simp only [cond_beq, if_pos e], fun _ => ?_⟩
     rw [e, hl] at q1
     cases q1
     exact q2 rfl
    ·exact ⟨ob, by simp only [cond_beq, if_neg e]; exact q1, q2⟩
  ·exact hR
theorem soften_sound : ∀ (l : List (Slot × U.τ)) (s : ASt U), RR E n N w0 ρ s a w → RR E n N w0 ρ (soften l s) a w
 | [], _, h => h
 | x :: l, s, h => soften_sound l _ (softSlot_sound h x)
theorem freezeObj_sound (h : RR E n N w0 ρ s a w) (j : Nat) : ∃ ρ', RR E n N w0 ρ' (freezeObj s j) a w := by
 unfold freezeObj
 split
 ·rename_i t g xs i m gm hj
  split
  ·rename_i t1 gm' ys hm
   split
   ·rename_i y hb hy
    obtain rfl := Nat.eq_of_beq_eq_true hb
    obtain ⟨u, cs, h1, hp, h2, hsz, hi, hmr, h3⟩ := h.objs _ _ hj
    have hjm : j ≠ m := fun e => by
     subst e
     rw [hj] at hm
     cases hm
    obtain ⟨hR1, hv⟩ := h.dropOwn hm
    have hobj1 : (s.obj m (.row t1 (gm + 1) [])).objs j = some (.rowF t g xs i m gm) := by
     show cond (Nat.beq j m) _ (s.objs j) = _
     rw [nbeq hjm]
     exact hj
    refine ⟨rset ρ m (gm + 1) (.slice none 0 0), ?_⟩
    have hmono : ∀ {x : AVal U} {v : Value}, Rel E w ρ (Stab N ρ w) x v → x.flat = true → Rel E w (rset ρ m (gm + 1) (.slice none 0 0)) (Stab N (rset ρ m (gm + 1) (.slice none 0 0)) w) x v := fun {x v} hx hf =>
     (hx.flat (ρ' := noOwn) hf).mono (fun b ⟨q1, q2, q3⟩ => ⟨⟨q1, q2, fun nm g u hr hbl => by
      unfold rset at hr
      split at hr
      ·cases hr
       cases hbl
      ·exact q3 _ _ _ hr hbl⟩, rfl⟩) (fun _ _ _ hr => by cases hr)
    have hhold := hR1
    have c : Chg N (fun q => q = j) w0.heap.size (rset ρ m (gm + 1) (.slice none 0 0)) (rset ρ m (gm + 1) (.slice none 0 0)) w w :=
     ⟨fun _ _ => rfl, fun _ _ _ _ hr1 => .inl hr1, Below.refl _ _, fun _ _ _ => rfl, fun nm g1 u1 b' hd hr1 hb' => .inl ⟨nm, g1, u1, hd, hr1, hb'⟩, fun nm nm' g1 g2 u1 u2 b' _ _ hr1 hr2 hne hb1 => hR1.sep _ _ _ _ _ _ b' hr1 hr2 hne hb1⟩
    refine hR1.change c rfl (fun q hq => ?_) (fun nm g1 u1 hd hr1 => ?_) (fun q ob hq ho => ?_) (fun q ob hq _ => ⟨.row t g (xs.set i y), by
     rw [hq]
     show cond (Nat.beq j j) _ _ = _
     rw [Nat.beq_refl]
     rfl⟩)
    ·show cond (Nat.beq q j) _ _ = _
     rw [nbeq hq]
     rfl
    ·obtain ⟨ob, q1, q2⟩ := hR1.dom _ _ _ hr1
     rw [hd, hobj1] at q1
     cases q1
     refine ⟨.row t g (xs.set i y), ?_, fun _ => q2 rfl⟩
     rw [hd]
     show cond (Nat.beq j j) _ _ = _
     rw [Nat.beq_refl]
     rfl
    ·subst hq
     have e0 : ((s.obj m (.row t1 (gm + 1) [])).obj q (.row t g (xs.set i y))).objs q = some (.row t g (xs.set i y)) := by
      show cond (Nat.beq q q) _ _ = _
      rw [Nat.beq_refl]
      rfl
     rw [e0] at ho
     cases ho
     refine ⟨u, cs, ?_, hp, by rw [List.length_set]; exact h2, fun p hq k hk => ?_⟩
     ·unfold rset
      rw [if_neg (fun e => hjm (Name.ob.inj e))]
      exact h1
     ·rw [List.length_set] at hq
      by_cases hqi : p = i
      ·subst hqi
       have hey := E.unsl_ok _ _ _ _ hy
       have hk0 : k = 0 := by
        rw [E.enc_len, hsz] at hk
        omega
       subst hk0
       have e1 : (E.enc t (xs.set p y)[p])[0] = .sl t1 ys := by
        simp only [List.getElem_set_self, hey]
        rfl
       rw [e1, hsz, Nat.mul_one, Nat.add_zero]
       exact hv hmr
      ·have e1 : (xs.set i y)[p]'(by simpa using hq) = xs[p] := by rw [List.getElem_set_ne (Ne.symm hqi)]
       have hk2 : k < (E.enc t xs[p]).length := by rw [E.enc_len] at hk ⊢; exact hk
       have := hmono (h3 p hq hqi k hk2) (E.enc_flat t _ _ (List.getElem_mem hk2)).1
       simp only [e1]
       exact this
   ·exact ⟨ρ, h⟩
  ·exact ⟨ρ, h⟩
 ·rename_i t g gm xs m gq hj
  split
  ·rename_i t1 gm' ys hm
   split
   ·rename_i y hb hy
    obtain rfl := Nat.eq_of_beq_eq_true hb
    obtain ⟨u, cs, h1, hp, h2, hsz, hno, hmr, h3⟩ := h.objs _ _ hj
    obtain ⟨um, csm, m1, mp, m2, m4⟩ := h.objs _ _ hm
    have hmj : m ≠ j := fun e => by
     subst e
     rw [hj] at hm
     cases hm
    have hum : cs.getD xs.length undef = um := by
     generalize cs.getD xs.length undef = c at hmr
     cases hmr with
     | osl _ _ u' hr' hp' =>
      rw [m1] at hr'
      simp only [Option.some.injEq, Prod.mk.injEq, true_and] at hr'
      exact hr'.symm
     | oslOld _ _ g' u' v hr' hg =>
      rw [m1] at hr'
      simp only [Option.some.injEq, Prod.mk.injEq] at hr'
      omega
    have hmemm := h.noMem (id := m) (fun ob ho => by rw [hm] at ho; cases ho; rfl)
    let ρ2 : Own := rmem (rmem ρ m (some (gq + 1, .slice none 0 0)) (fun _ => none)) j (ρ (.ob j)) (fun k => if k = xs.length then some (gm, um) else ρ (.mem j k))
    have ej : ρ2 (.ob j) = ρ (.ob j) := rmem_ob
    have ejm : ∀ k, ρ2 (.mem j k) = if k = xs.length then some (gm, um) else ρ (.mem j k) := fun k => rmem_mem
    have em : ρ2 (.ob m) = some (gq + 1, .slice none 0 0) := by
     show rmem _ j _ _ (.ob m) = _
     rw [rmem_out (show (Name.ob m).id ≠ j from hmj)]
     exact rmem_ob
    have emm : ∀ k, ρ2 (.mem m k) = none := fun k => by
     show rmem _ j _ _ (.mem m k) = _
     rw [rmem_out (show (Name.mem m k).id ≠ j from hmj)]
     exact rmem_mem
    have eout : ∀ nm : Name, nm.id ≠ m → nm.id ≠ j → ρ2 nm = ρ nm := fun nm h1 h2 => by
     show rmem _ j _ _ nm = _
     rw [rmem_out h2, rmem_out h1]
    have hcase : ∀ (nm : Name) g u b, (nm.id = m ∨ nm.id = j) → ρ2 nm = some (g, u) → blk u = some b → (nm = .ob j ∧ ρ (.ob j) = some (g, u)) ∨ (nm = .mem j xs.length ∧ u = um) ∨ ∃ k, k ≠ xs.length ∧ nm = .mem j k ∧ ρ (.mem j k) = some (g, u) := fun nm g u b hq hr hb => by
     cases nm with
     | ob q =>
      rcases hq with hq | hq
      ·obtain rfl : q = m := hq
       rw [em] at hr
       cases hr
       cases hb
      ·obtain rfl : q = j := hq
       rw [ej] at hr
       exact .inl ⟨rfl, hr⟩
     | mem q k =>
      rcases hq with hq | hq
      ·obtain rfl : q = m := hq
       rw [emm] at hr
       cases hr
      ·obtain rfl : q = j := hq
       rw [ejm] at hr
       split at hr
       ·rename_i hk
        subst hk
        cases hr
        exact .inr (.inl ⟨rfl, rfl⟩)
       ·rename_i hk
        exact .inr (.inr ⟨k, hk, rfl, hr⟩)
    have c : Chg N (fun q => q = m ∨ q = j) w0.heap.size ρ ρ2 w w := by
     refine two_chg h hmj eout (fun nm g u hq hr => ?_) (Below.refl _ _) (fun b hb _ => rfl) (fun nm => match nm with | .ob q => .ob q | .mem q k => if k = xs.length then .ob m else .mem q k) (fun nm g u b hq hr hb => ?_) (fun nm nm' g g1 u u1 b b1 hq hq' hr hr' hb hb1 he => ?_)
     ·cases nm with
      | ob q =>
       rcases hq with hq | hq
       ·obtain rfl : q = m := hq
        rw [m1] at hr
        cases hr
        exact .inr ⟨mp, _, _, em, by omega⟩
       ·obtain rfl : q = j := hq
        exact .inl (by rw [ej]; exact hr)
      | mem q k =>
       rcases hq with hq | hq
       ·obtain rfl : q = m := hq
        rw [hmemm k] at hr
        cases hr
       ·obtain rfl : q = j := hq
        by_cases hk : k = xs.length
        ·rw [hno k (by omega)] at hr
         cases hr
        ·exact .inl (by rw [ejm, if_neg hk]; exact hr)
     ·rcases hcase nm g u b hq hr hb with ⟨rfl, h4⟩ | ⟨rfl, rfl⟩ | ⟨k, hk, rfl, h4⟩
      ·exact ⟨.inr rfl, .inl ⟨_, _, h4, hb⟩⟩
      ·simp only [if_true]
       exact ⟨.inl rfl, .inl ⟨_, _, m1, hb⟩⟩
      ·simp only [if_neg hk]
       exact ⟨.inr rfl, .inl ⟨_, _, h4, hb⟩⟩
     ·rcases hcase nm g u b hq hr hb with ⟨rfl, h4⟩ | ⟨rfl, rfl⟩ | ⟨k, hk, rfl, h4⟩
      ·rcases hcase nm' g1 u1 b1 hq' hr' hb1 with ⟨rfl, h5⟩ | ⟨rfl, rfl⟩ | ⟨k', hk', rfl, h5⟩
       ·rfl
       ·simp only [if_true] at he
        exact absurd (Name.ob.inj he).symm hmj
       ·simp only [if_neg hk'] at he
        cases he
      ·rcases hcase nm' g1 u1 b1 hq' hr' hb1 with ⟨rfl, h5⟩ | ⟨rfl, rfl⟩ | ⟨k', hk', rfl, h5⟩
       ·simp only [if_true] at he
        exact absurd (Name.ob.inj he) hmj
       ·rfl
       ·simp only [if_true, if_neg hk'] at he
        cases he
      ·rcases hcase nm' g1 u1 b1 hq' hr' hb1 with ⟨rfl, h5⟩ | ⟨rfl, rfl⟩ | ⟨k', hk', rfl, h5⟩
       ·simp only [if_neg hk] at he
        cases he
       ·simp only [if_true, if_neg hk] at he
        cases he
       ·simp only [if_neg hk, if_neg hk'] at he
        exact he
    obtain ⟨o1, o2, o3⟩ := obj2 s m j 0 hmj (.row t1 (gq + 1) []) (.deep t g gm (xs ++ [y])) .any
    refine ⟨ρ2, h.change (s' := (s.obj m (.row t1 (gq + 1) [])).obj j (.deep t g gm (xs ++ [y]))) c rfl (fun q hq => o1 q (fun e => hq (.inl e)) (fun e => hq (.inr e))) (fun nm g u hq hr => ?_) (fun q ob hq ho => ?_) (fun q ob hq _ => by
      rcases hq with e | e
      ·exact ⟨_, (congrArg _ e).trans o2⟩
      ·exact ⟨_, (congrArg _ e).trans o3⟩)⟩
    ·rcases hq with hq | hq
     ·refine ⟨_, by rw [hq]; exact o2, fun _ => ?_⟩
      cases nm with
      | ob q => exact ⟨q, rfl⟩
      | mem q k =>
       obtain rfl : q = m := hq
       rw [emm] at hr
       cases hr
     ·exact ⟨_, by rw [hq]; exact o3, fun e => by cases e⟩
    ·rcases hq with rfl | rfl
     ·rw [show ((s.obj q (.row t1 (gq + 1) [])).obj j (.deep t g gm (xs ++ [y]))).objs q = some (.row t1 (gq + 1) []) from o2] at ho
      cases ho
      exact ⟨.slice none 0 0, [], em, (fun a e => by cases e), World.ownsRow_nil _ _ _ _, fun i hi => absurd hi (by simp)⟩
     ·rw [show ((s.obj m (.row t1 (gq + 1) [])).obj q (.deep t g gm (xs ++ [y]))).objs q = some (.deep t g gm (xs ++ [y])) from o3] at ho
      cases ho
      refine ⟨u, cs, by rw [ej]; exact h1, hp, by rw [List.length_append]; exact h2, hsz, fun k hk => ?_, fun k hk => ?_⟩
      ·rw [List.length_append, List.length_singleton] at hk
       rw [ejm, if_neg (by omega)]
       exact hno k (by omega)
      ·rw [List.length_append, List.length_singleton] at hk
       by_cases hkl : k = xs.length
       ·subst hkl
        refine ⟨t1, ys, um, csm, ?_, by rw [ejm, if_pos rfl], hum, mp, m2, fun i hi k hk => c.rel (m4 i hi k hk)⟩
        rw [List.getElem_concat_length (by rfl)]
        exact E.unsl_ok _ _ _ _ hy
       ·obtain ⟨t2, ws, v2, ds2, p1, p2, p3, p4, p5, p6⟩ := h3 k (by omega)
        refine ⟨t2, ws, v2, ds2, ?_, by rw [ejm, if_neg hkl]; exact p2, p3, p4, p5, fun i hi k hk => c.rel (p6 i hi k hk)⟩
        rw [List.getElem_append_left (by omega)]
        exact p1
   ·exact ⟨ρ, h⟩
  ·exact ⟨ρ, h⟩
 ·exact ⟨ρ, h⟩
theorem freezeAll_sound : ∀ (l : List (Slot × Nat × U.τ)) (s : ASt U) (ρ : Own), RR E n N w0 ρ s a w → ∃ ρ', RR E n N w0 ρ' (freezeAll l s) a w
 | [], _, ρ, h => ⟨ρ, h⟩
 | x :: l, s, ρ, h => by
  have : ∃ ρ', RR E n N w0 ρ' (freezeSlot s x) a w := by
   unfold freezeSlot
   split
   ·exact freezeObj_sound h _
   ·exact ⟨ρ, h⟩
  obtain ⟨ρ', h'⟩ := this
  exact freezeAll_sound l _ ρ' h'
theorem canon_sound (hR0 : RR E n N w0 ρ s a w) {m : Canon U} (hc0 : canon m s = some s') (hpin : ∀ id u, w0.pin id = some u → id ∈ m.cells) : ∃ ρ', RR E n N w0 ρ' s' a w := by
 obtain ⟨ρ1, hR⟩ := freezeAll_sound m.own _ ρ (soften_sound m.soft s hR0)
 revert hR hc0
 unfold canon
 generalize freezeAll m.own (soften m.soft s) = s
 clear hR0
 revert ρ1
 intro ρ hc hR
 unfold canon0 at hc
 split at hc
 ·rename_i f g hf hg
  split at hc
  ·rename_i h js hk
   obtain rfl := Option.some.inj hc
   have hgs : ∀ id ob, g id = some ob → ∃ ob', s.objs id = some ob' ∧ (ob.simple = true → ob'.simple = true) := fun id ob ho => by
    rcases (keepCells_spec m.cells g hg id ob ho).2 with ⟨cs, h3, rfl, _⟩ | ⟨h3, _⟩
    ·exact ⟨_, h3, fun _ => rfl⟩
    ·exact ⟨_, h3, fun h => h⟩
   obtain ⟨ρ', sg, P⟩ := keepRows_sound hR hgs m.own h js hk
   have hp : ∀ id q u, (m.cells.any (Nat.beq id)) = true → ρ (.ob id) = some (q, u) → ρ' (.ob id) = some (q, u) := fun id q u hid hr => by
    obtain ⟨ob, ho⟩ := keepCells_all m.cells g hg id (any_beq_mem.1 hid)
    rw [(P.old id ob ho).2 (.ob id) rfl]
    exact hr
   have hst : ∀ b, Stab N ρ w b → Stab N ρ' w b := fun b ⟨h1, h2, h3⟩ => ⟨h1, h2, fun nm q u hr hb => by
    obtain ⟨j, q0, _, hr'⟩ := P.src nm q u b hr hb
    exact h3 _ _ _ hr' hb⟩
   refine ⟨ρ', hR.defers, hR.size, fun t => ?_, fun id ob ho => ?_, P.dom, P.sep hR, hR.below, hR.nlt, hR.kept, fun nm q u b hr hb => ?_, fun id u hpi => by
    obtain ⟨ob, ho⟩ := keepCells_all m.cells g hg id (hpin id u hpi)
    obtain ⟨_, hq⟩ := hR.pin id u hpi
    obtain ⟨h1, h2⟩ := P.old id ob ho
    exact ⟨⟨ob, h1⟩, by rw [h2 (.ob id) rfl]; exact hq⟩, hR.nle⟩
   ·rcases keepTmps_spec m.keep f hf t with e | ⟨id, τ, hm, e⟩ | ⟨e, hok⟩
    ·show Rel E w ρ' _ (f t) _
     rw [e]
     exact .any _
    ·show Rel E w ρ' _ (f t) _
     rw [e]
     obtain ⟨u, h1, h2, h3⟩ := P.slots _ _ _ hm
     rw [show a.valAt w0 t = u from h2]
     exact .osl id 0 u h1 h3
    ·show Rel E w ρ' _ (f t) _
     rw [e]
     exact okIds_rel hok hp hst (hR.tmps t)
   ·have flat : ∀ {x : AVal U} {v : Value}, x.flat = true → Rel E w ρ (Stab N ρ w) x v → Rel E w ρ' (Stab N ρ' w) x v := fun hx hv =>
     (hv.flat (ρ' := ρ') hx).mono (fun b hb => ⟨hst b hb, rfl⟩) (fun _ _ _ hr => .inl hr)
    rcases P.obs id ob ho with ⟨h1, h2⟩ | ⟨_, x, rfl, h2⟩
    ·rcases (keepCells_spec m.cells g hg id ob h1).2 with ⟨cs, h3, rfl, h4⟩ | ⟨h3, hrow⟩
     ·obtain ⟨b, c, ty, h5, h6, h7, h8, h9⟩ := hR.objs _ _ h3
      refine ⟨b, c, ty, by rw [h2 (.ob id) rfl]; exact h5, h6, h7, by rw [patch_length]; exact h8, fun k hk => ?_⟩
      have hk' : k < cs.length := by rw [patch_length] at hk; exact hk
      rw [patch_get _ _ _ _ _ hk', Nat.zero_add]
      unfold patch1
      cases hid' : isOwnCell m.own id k with
      | some id' =>
       obtain ⟨τ, hm⟩ := isOwnCell_mem hid'
       obtain ⟨u, h10, ⟨l', b', c', ty', h11, h12, h13, h14, h15⟩, h16⟩ := P.slots _ _ _ hm
       rw [h5] at h12
       simp only [Option.some.injEq, Prod.mk.injEq, true_and, Value.pointer.injEq, Addr.mk.injEq, and_true] at h12
       subst h12
       rw [h7] at h13
       simp only [Option.some.injEq, Obj.cells.injEq] at h13
       obtain ⟨rfl, rfl, _⟩ := h13
       rw [h15]
       exact .osl id' 0 u h10 h16
      | none => exact okCell_rel (patchOk_get cs 0 h4 k hk' (by rw [Nat.zero_add]; exact hid')) hp hst (h9 k hk')
     ·have h5 := hR.objs _ _ h3
      rcases hrow with ⟨t, q, xs, rfl⟩ | ⟨t, q, xs, k, m', gm, rfl, hpm⟩ | ⟨k, d, rfl⟩
      ·obtain ⟨u, cs, r1, r2, r3, r4⟩ := h5
       exact ⟨u, cs, by rw [h2 (.ob id) rfl]; exact r1, r2, r3, fun i hi k hk => flat (E.enc_flat t _ _ (List.getElem_mem hk)).1 (r4 i hi k hk)⟩
      ·obtain ⟨u, cs, r1, r2, r3, r4, r5, r6, r7⟩ := h5
       exact ⟨u, cs, by rw [h2 (.ob id) rfl]; exact r1, r2, r3, r4, r5, okCell_rel (p := fun i => m.cells.any (Nat.beq i)) (x := .osl m' gm) hpm hp hst r6, fun i hi hik k hk => flat (E.enc_flat t _ _ (List.getElem_mem hk)).1 (r7 i hi hik k hk)⟩
      ·exact RelObj.closed (w := w) (ob := .opq k d) rfl (h2 (.ob id) rfl) (fun j => h2 (.mem id j) rfl) (fun b hb => hb) h5
    ·refine h2.join (Nat.le_refl _) (fun _ _ => rfl) rfl (fun _ => rfl) (fun t z c v _ _ hc hv => ?_)
     exact (hv.flat (ρ' := ρ') (E.enc_flat t z c hc).1).mono (fun b hb => ⟨hst b hb, rfl⟩) (fun _ _ _ hr => .inl hr)
   ·obtain ⟨j, q0, _, hr'⟩ := P.src nm q u b hr hb
    exact hR.free _ _ _ _ hr' hb
  ·cases hc
 ·cases hc
end
end Go.Vm
