/-
  An interpreter of the model's code over abstract values, and that it is right: part 5. Conditions: none; lemmas over any program.
-/
import Derived.Test.YtohecfbnmmgimaaV4
import Derived.LoopN
import Derived.ProofKit
import Derived.OpenShut
import Derived.JoinedCond
import Derived.JoinedOf
import Derived.JoinedAt
import Derived.RowKit3
import Derived.Carry
import Derived.Lib.SmallJoins
import Derived.Deep.Slices
namespace Go.Vm
open Go.RowKit
set_option linter.unusedVariables false

inductive AEx where
  | normal
  | exit (id : Nat)
  | ret

def AEx.to : AEx → Exit
  | .normal => .normal
  | .exit id => .exit id
  | .ret => .ret

section
variable {U : Univ}

/-- Rounds of a loop; the number of the round says what is kept at its head. -/
def iter (B : ASt U → (AEx → ASt U → Prop) → Prop) (m : Nat → Canon U) : Nat → Nat → ASt U → (AEx → ASt U → Prop) → Prop
  | 0, _, _, _ => False
  | f + 1, r, s, K => B s fun e s' => match e with
    | .normal => match canon (m (r + 1)) s' with
      | some s'' => iter B m f (r + 1) s'' K
      | none => False
    | e => match canon (m r) s' with
      | some s'' => K e s''
      | none => False

/-- What a test has shown of a temporary. -/
def ASt.know (s : ASt U) (c : Operand) (b : Bool) : ASt U :=
  match c with
  | .tmp t => s.set t (.bool b)
  | _ => s

theorem ASt.know_eq {s : ASt U} {c : Operand} {b : Bool} (h : s.eval c = .bool b) : s.know c b = s := by
  unfold ASt.know
  split
  · rename_i t
    have hb : s.tmps t = .bool b := h
    have : (s.set t (.bool b)).tmps = s.tmps := funext fun u => by
      show cond (Nat.beq u t) (.bool b) (s.tmps u) = s.tmps u
      by_cases ht : u = t
      · subst ht
        rw [Nat.beq_refl]
        exact hb.symm
      · rw [nbeq ht]
        rfl
    exact congrArg (ASt.mk · s.objs) this
  · rfl

/-- The code, run abstractly: what must hold for K to hold at the end. -/
def exec (C : Cfg U) (n : Nat) (M : Nat → Nat → Canon U) (fuel : Nat) : Nat → Code → ASt U → (AEx → ASt U → Prop) → Prop
  | _, .skip, s, K => K .normal s
  | _, .region _ ops false, s, K => match crun C n ops (ops.toList.length + 1) [] ops.toList s with
    | some (cs, s') => both cs (K .normal s')
    | none => False
  | _, .region _ ops true, s, K => xdraw C n ops ops.toList [] s fun es s' => cond (chkAll ops.toList [] es) (K .normal s') False
  | cur, .seq x y, s, K => exec C n M fuel cur x s fun e s' => match e with
    | .normal => exec C n M fuel cur y s' K
    | e => K e s'
  | cur, .cond c x y, s, K => match s.eval c with
    | .bool b => match b with
      | true => exec C n M fuel cur x (s.know c true) K
      | false => exec C n M fuel cur y (s.know c false) K
    | _ => False
  | _, .block id c, s, K => exec C n M fuel id c s fun e s' => match e with
    | .exit id' => cond (Nat.beq id' id) (K .normal s') (K (.exit id') s')
    | e => K e s'
  | cur, .loop c, s, K => match canon (M cur 0) s with
    | some s' => iter (exec C n M fuel cur c) (M cur) fuel 0 s' K
    | none => False
  | _, .exit id, s, K => K (.exit id) s
  | _, .ret, s, K => K .ret s
  | _, _, _, _ => False

variable {n : Nat} {N : Nat → Prop} {w0 w w' : World} {ρ ρ' : Nat → Option (Nat × Value)} {s s' : ASt U} {a : Act} {C : Cfg U} {M : Nat → Nat → Canon U} {fuel : Nat}

theorem iter_sound {B : ASt U → (AEx → ASt U → Prop) → Prop} {c : Code} {m : Nat → Canon U}
    (hB : ∀ (s : ASt U) (K : AEx → ASt U → Prop) (ρ : Nat → Option (Nat × Value)) (a : Act) (w : World) (Q : Exit → Act → World → Prop), B s K → RR C.E n N w0 ρ s a w → (∀ e s' ρ' a' w', K e s' → RR C.E n N w0 ρ' s' a' w' → Q e.to a' w') → c.wp C.P Q a w) :
    ∀ (f r : Nat) (s : ASt U) (K : AEx → ASt U → Prop) (ρ : Nat → Option (Nat × Value)) (a : Act) (w : World) (Q : Exit → Act → World → Prop), iter B m f r s K → RR C.E n N w0 ρ s a w → (∀ e s' ρ' a' w', K e s' → RR C.E n N w0 ρ' s' a' w' → Q e.to a' w') → Code.rounds C.P c Q f a w := by
  intro f
  induction f with
  | zero => intro r s K ρ a w Q h; exact h.elim
  | succ f ih =>
    intro r s K ρ a w Q h hR hQ
    rw [rounds_succ]
    refine hB s _ ρ a w _ h hR (fun e s' ρ' a' w' hK hR' => ?_)
    cases e with
    | normal =>
      simp only at hK
      split at hK
      · rename_i s'' hc
        obtain ⟨ρ'', hR''⟩ := canon_sound hR' hc
        exact ih (r + 1) s'' K ρ'' a' w' Q hK hR'' hQ
      · exact hK.elim
    | exit id =>
      simp only at hK
      split at hK
      · rename_i s'' hc
        obtain ⟨ρ'', hR''⟩ := canon_sound hR' hc
        exact hQ _ _ _ _ _ hK hR''
      · exact hK.elim
    | ret =>
      simp only at hK
      split at hK
      · rename_i s'' hc
        obtain ⟨ρ'', hR''⟩ := canon_sound hR' hc
        exact hQ _ _ _ _ _ hK hR''
      · exact hK.elim

theorem exec_sound (hs : SumAt C w0) (hmix : C.P.follows .mixedOrders = true) : ∀ (c : Code) (cur : Nat) (s : ASt U) (K : AEx → ASt U → Prop) (ρ : Nat → Option (Nat × Value)) (a : Act) (w : World) (Q : Exit → Act → World → Prop),
    exec C n M fuel cur c s K → RR C.E n N w0 ρ s a w → (∀ e s' ρ' a' w', K e s' → RR C.E n N w0 ρ' s' a' w' → Q e.to a' w') → c.wp C.P Q a w := by
  intro c
  induction c with
  | skip =>
    intro cur s K ρ a w Q h hR hQ
    exact wp_skip (hQ .normal s ρ a w h hR)
  | region id ops draw =>
    intro cur s K ρ a w Q h hR hQ
    cases draw with
    | false =>
      simp only [exec] at h
      split at h
      · rename_i cs s' hrun
        obtain ⟨hc, hk⟩ := both_spec h
        exact wp_region (wpOps_of_wpl (crun_sound _ C hs _ _ _ _ _ hrun hc ρ a w hR _ (fun ρ' a' w' hR' => hQ .normal s' ρ' a' w' hk hR')))
      · exact h.elim
    | true =>
      simp only [exec] at h
      refine draw_sound hs hmix hR (K := fun s' => K .normal s') (cast ?_ h) (fun s' ρ' a' w' hk hR' => hQ .normal s' ρ' a' w' hk hR')
      congr 1
      funext es s'
      cases chkAll ops.toList [] es <;> simp
  | seq x y ihx ihy =>
    intro cur s K ρ a w Q h hR hQ
    simp only [exec] at h
    refine wp_seq (ihx cur s _ ρ a w _ h hR (fun e s' ρ' a' w' hK hR' => ?_))
    cases e with
    | normal => exact ihy cur s' K ρ' a' w' Q hK hR' hQ
    | exit id => exact hQ _ _ _ _ _ hK hR'
    | ret => exact hQ _ _ _ _ _ hK hR'
  | cond c x y ihx ihy =>
    intro cur s K ρ a w Q h hR hQ
    simp only [exec] at h
    split at h
    · rename_i b hb
      have hc := hR.eval c
      rw [hb] at hc
      refine wp_cond (bool_of_rel hc) ?_
      cases b with
      | true =>
        simp only [ASt.know_eq hb] at h
        exact ihx cur s K ρ a w Q h hR hQ
      | false =>
        simp only [ASt.know_eq hb] at h
        exact ihy cur s K ρ a w Q h hR hQ
    · exact h.elim
  | block id c ih =>
    intro cur s K ρ a w Q h hR hQ
    simp only [exec] at h
    refine wp_block (ih id s _ ρ a w _ h hR (fun e s' ρ' a' w' hK hR' => ?_))
    cases e with
    | normal => exact hQ .normal _ _ _ _ hK hR'
    | exit id' =>
      simp only [cond_beq] at hK
      show Exit.inBlock id Q (.exit id') a' w'
      simp only [Exit.inBlock]
      split
      · rename_i hi
        rw [if_pos hi] at hK
        exact hQ .normal _ _ _ _ hK hR'
      · rename_i hi
        rw [if_neg hi] at hK
        exact hQ (.exit id') _ _ _ _ hK hR'
    | ret => exact hQ .ret _ _ _ _ hK hR'
  | loop c ih =>
    intro cur s K ρ a w Q h hR hQ
    simp only [exec] at h
    split at h
    · rename_i s' hc
      obtain ⟨ρ', hR'⟩ := canon_sound hR hc
      exact wp_loop_rounds fuel (iter_sound (fun s K ρ a w Q h hR hQ => ih cur s K ρ a w Q h hR hQ) fuel 0 s' K ρ' a w Q h hR' hQ)
    · exact h.elim
  | exit id =>
    intro cur s K ρ a w Q h hR hQ
    exact wp_exit (hQ (.exit id) s ρ a w h hR)
  | ret =>
    intro cur s K ρ a w Q h hR hQ
    exact wp_ret (hQ .ret s ρ a w h hR)
  | _ =>
    intro cur s K ρ a w Q h hR hQ
    exact h.elim

/-! ### Functions -/

/-- A result, by content. -/
def resContent (C : Cfg U) (look : Nat → Option (AObj U)) (t : TypeId) : AVal U → Option (AVal U)
  | .agg l => match argsOf C look (leafTys C.P 20 t) l with
    | some (ys, _) => some (.agg ys)
    | none => none
  | x => match byContent C look t x with
    | some (y, _) => some y
    | none => none

/-- A leaf of a result whose memory is new: own slices are given away. -/
def frLeaf (C : Cfg U) (look : Nat → Option (AObj U)) (t : TypeId) : AVal U → Option (AVal U × List (NewRow U × Option Nat))
  | .osl id g => match look id with
    | some (.row t' g' xs) => cond (Nat.beq g g') (some (.new t' xs, [(⟨t', xs⟩, some id)])) none
    | _ => none
  | .nils => match sliceElt C t with
    | some τ => some (.new τ [], [(⟨τ, []⟩, none)])
    | none => none
  | .int k n => some (.int k n, [])
  | .bool b => some (.bool b, [])
  | .str s => some (.str s, [])
  | _ => none
def frLeaves (C : Cfg U) (look : Nat → Option (AObj U)) : List TypeId → List (AVal U) → Option (List (AVal U) × List (NewRow U × Option Nat))
  | [], [] => some ([], [])
  | t :: ts, v :: vs => match frLeaf C look t v, frLeaves C look ts vs with
    | some (y, is), some (ys, js) => some (y :: ys, is ++ js)
    | _, _ => none
  | _, _ => none
def frVal (C : Cfg U) (look : Nat → Option (AObj U)) (t : TypeId) : AVal U → Option (AVal U × List (NewRow U × Option Nat))
  | .agg l => match frLeaves C look (leafTys C.P 20 t) l with
    | some (ys, is) => some (.agg ys, is)
    | none => none
  | x => frLeaf C look t x

/-- What lies in a result's variable. -/
def resVal (C : Cfg U) (s : ASt U) : ResultVar → Option (AVal U)
  | .tmp x => some (s.tmps x)
  | .cell x t' => match behind C.E s.objs (s.tmps x) with
    | some (l, off) => partOf C.P t' l off
    | none => none

def resOne (C : Cfg U) (fr : Bool) (s : ASt U) (t : TypeId) (r : ResultVar) : Option (AVal U × List (NewRow U × Option Nat)) :=
  match resVal C s r with
  | some x => match fr with
    | true => frVal C s.objs t x
    | false => match resContent C s.objs t x with
      | some y => some (lm2 (fun _ => down1) 0 y, [])
      | none => none
  | none => none

def resAll (C : Cfg U) (fr : Bool) (s : ASt U) : List TypeId → List ResultVar → Option (List (AVal U) × List (NewRow U × Option Nat))
  | [], [] => some ([], [])
  | t :: ts, r :: rs => match resOne C fr s t r, resAll C fr s ts rs with
    | some (x, is), some (xs, js) => some (x :: xs, is ++ js)
    | _, _ => none
  | _, _ => none

/-- No name twice. -/
def onceIds : List (NewRow U × Option Nat) → Bool
  | [] => true
  | (_, some i) :: l => !l.any (fun p => match p.2 with
    | some j => Nat.beq i j
    | none => false) && onceIds l
  | (_, none) :: l => onceIds l

def result (C : Cfg U) (fr : Bool) (fn : Func) (s : ASt U) : Option (AVal U) :=
  match resAll C fr s fn.resultTypes.toList fn.results.toList with
  | some ([x], is) => match x with
    | .tup _ => none
    | x => cond (onceIds is) (some x) none
  | some (l, is) => cond (onceIds is) (some (.tup l)) none
  | none => none

def initSt (xs : List (AVal U)) : ASt U := ⟨fun t => xs.getD t (.raw undef), fun _ => none⟩

/-- At the end of a function: the result is of a kind. -/
def AEnds (C : Cfg U) (fr : Bool) (fn : Func) (Post : AVal U → Prop) (e : AEx) (s : ASt U) : Prop :=
  match e with
  | .exit _ => False
  | _ => match result C fr fn s with
    | some r => Post r
    | none => False

theorem resContent_sound (hR : RR C.E n N w0 ρ s a w) {t : TypeId} {x y : AVal U} {v : Value} (hx : Rel C.E w ρ (Stab N ρ w) x v) (h : resContent C s.objs t x = some y) : Rel C.E w noOwn (Out' N w) y v := by
  unfold resContent at h
  split at h
  · rename_i l
    split at h
    · rename_i ys own hys
      obtain rfl := Option.some.inj h
      cases hx with
      | agg _ vs hn hl =>
        obtain ⟨h1, h2, _⟩ := argsOf_sound hR (fun _ _ h => h) _ l ys own vs.toList (by simpa using hn) (fun k hk => by rw [getD_toList]; exact hl k hk) hys
        exact .agg ys vs (by rw [hn, h1]) (fun k hk => by have := h2 k hk; rw [getD_toList] at this; exact this)
    · cases h
  · split at h
    · rename_i y' own hb
      obtain rfl := Option.some.inj h
      exact (byC_sound hR (fun _ _ h => h) 5 _ _ _ _ _ hx hb).1
    · cases h

theorem resVal_sound (hR : RR C.E n N w0 ρ s a w) {r : ResultVar} {y : AVal U} (h : resVal C s r = some y) :
    ∃ v, (match r with
      | .tmp t => pure (a.tmps.getD t undef)
      | .cell x t => do loadVar t (← asAddr (a.tmps.getD x undef)) : Sem Value).run C.P w = .ok v w ∧ Rel C.E w ρ (Stab N ρ w) y v := by
  unfold resVal at h
  split at h
  · rename_i x
    cases h
    exact ⟨_, rfl, hR.tmps x⟩
  · rename_i x t'
    split at h
    · rename_i l off hb
      obtain ⟨b, o, f, hp, hat⟩ := behind_sound hR (fun _ _ h => h) (hR.tmps x) hb
      obtain ⟨u, hrun, hu⟩ := loadVar_sound (P := C.P) h hat
      refine ⟨u, ?_, hu⟩
      rw [hp]
      simp only [asAddr, Sem.run_bind, Sem.run_pure, Result.andThen_ok, hrun]
    · cases h

/-- The new slices of a result, by number: the values of the names. -/
def takeR (ρ : Nat → Option (Nat × Value)) (ids : List (NewRow U × Option Nat)) : Nat → Option (Nat × Value) := fun k =>
  match ids[k]? with
  | some (_, some id) => match ρ id with
    | some (_, u) => some (0, u)
    | none => none
  | some (_, none) => some (0, .slice none 0 0)
  | none => none

/-- What is known of the pairs of a new slice and its name. -/
def PairOK (C : Cfg U) (s : ASt U) (p : NewRow U × Option Nat) : Prop :=
  match p.2 with
  | some id => ∃ g, s.objs id = some (.row p.1.1 g p.1.2)
  | none => p.1.2 = []

theorem frLeaf_sound (hR : RR C.E n N w0 ρ s a w) {ids : List (NewRow U × Option Nat)} {t : TypeId} {x y : AVal U} {is : List (NewRow U × Option Nat)} {v : Value} {st' : Nat → Prop} (h : frLeaf C s.objs t x = some (y, is)) (hx : Rel C.E w ρ (Stab N ρ w) x v) :
    is.map (·.1) = news1 y ∧ (∀ p ∈ is, PairOK C s p) ∧ (∀ l, y ≠ .agg l) ∧ (∀ l, y ≠ .tup l) ∧ ∀ k, (∀ j, j < is.length → ids[k + j]? = is[j]?) → Rel C.E w (takeR ρ ids) st' (own1 (fun k => k) k y) v := by
  unfold frLeaf at h
  split at h
  · split at h
    · rename_i id g _ t' g' xs hl
      obtain ⟨hb, h⟩ := cond_some h
      cases h
      obtain rfl := Nat.eq_of_beq_eq_true hb
      refine ⟨rfl, fun p hp => ?_, (fun l e => by cases e), (fun l e => by cases e), fun k hk => ?_⟩
      · simp only [List.mem_singleton] at hp
        subst hp
        exact ⟨g, hl⟩
      · have h0 := hk 0 (by simp)
        rw [Nat.add_zero] at h0
        obtain ⟨u, cs', q1, q2, _⟩ := hR.objs _ _ hl
        have hu : u = v := by
          cases hx with
          | osl _ _ u' hr' hp' =>
            rw [q1] at hr'
            simpa using hr'
          | oslOld _ _ g' u' v hr' hg =>
            rw [q1] at hr'
            simp only [Option.some.injEq, Prod.mk.injEq] at hr'
            omega
        subst hu
        refine .osl k 0 u ?_ q2
        unfold takeR
        rw [h0]
        simp [q1]
    · cases h
  · split at h
    · rename_i τ hτ
      cases h
      refine ⟨rfl, fun p hp => ?_, (fun l e => by cases e), (fun l e => by cases e), fun k hk => ?_⟩
      · simp only [List.mem_singleton] at hp
        subst hp
        rfl
      · have h0 := hk 0 (by simp)
        rw [Nat.add_zero] at h0
        cases hx
        refine .osl k 0 _ ?_ (fun a e => by cases e)
        unfold takeR
        rw [h0]
        rfl
    · cases h
  all_goals first
    | (cases h
       refine ⟨rfl, (fun p hp => by simp at hp), (fun l e => by cases e), (fun l e => by cases e), fun k hk => ?_⟩
       cases hx
       first | exact .int _ _ | exact .bool _ | exact .str _)
    | cases h

theorem frLeaves_sound (hR : RR C.E n N w0 ρ s a w) {ids : List (NewRow U × Option Nat)} {st' : Nat → Prop} : ∀ (ts : List TypeId) (xs ys : List (AVal U)) (is : List (NewRow U × Option Nat)) (vs : List Value), frLeaves C s.objs ts xs = some (ys, is) →
    vs.length = xs.length → (∀ k (h : k < xs.length), Rel C.E w ρ (Stab N ρ w) xs[k] (vs.getD k undef)) →
    is.map (·.1) = ys.flatMap news1 ∧ (∀ p ∈ is, PairOK C s p) ∧ ys.length = xs.length ∧ ∀ k, (∀ j, j < is.length → ids[k + j]? = is[j]?) → ∀ i (h : i < (lm1 (own1 (fun k => k)) k ys).length), Rel C.E w (takeR ρ ids) st' (lm1 (own1 (fun k => k)) k ys)[i] (vs.getD i undef) := by
  intro ts
  induction ts with
  | nil =>
    intro xs ys is vs h hl hr
    cases xs with
    | nil => cases h; exact ⟨rfl, (fun p hp => by simp at hp), rfl, fun k hk i hi => absurd hi (by simp [lm1])⟩
    | cons x xs => simp [frLeaves] at h
  | cons t ts ih =>
    intro xs ys is vs h hl hr
    cases xs with
    | nil => simp [frLeaves] at h
    | cons x xs =>
      cases vs with
      | nil => simp at hl
      | cons v vs =>
        simp only [frLeaves] at h
        split at h
        · rename_i y is1 ys1 js1 h1 h2
          cases h
          have h0 := hr 0 (by simp)
          simp only [List.getElem_cons_zero, List.getD_cons_zero] at h0
          obtain ⟨a1, a2, _, _, a3⟩ := frLeaf_sound (ids := ids) (st' := st') hR h1 h0
          obtain ⟨b1, b2, b3, b4⟩ := ih xs ys1 js1 vs h2 (by simpa using hl) (fun k hk => hr (k + 1) (by simp; omega))
          refine ⟨by rw [List.map_append, List.flatMap_cons, a1, b1], fun p hp => ?_, by simp [b3], fun k hk i hi => ?_⟩
          · rcases List.mem_append.1 hp with hp | hp
            · exact a2 p hp
            · exact b2 p hp
          · have hlen : (news1 y).length = is1.length := by rw [← a1, List.length_map]
            cases i with
            | zero =>
              refine a3 k (fun j hj => ?_)
              rw [hk j (by simp; omega), List.getElem?_append_left hj]
            | succ i =>
              have hi' : i < (lm1 (own1 fun k => k) (k + (news1 y).length) ys1).length := by simpa [lm1] using hi
              refine b4 (k + (news1 y).length) (fun j hj => ?_) i hi'
              rw [hlen, Nat.add_assoc, hk (is1.length + j) (by simp; omega), List.getElem?_append_right (by omega), Nat.add_sub_cancel_left]
        · cases h

theorem frVal_sound (hR : RR C.E n N w0 ρ s a w) {ids : List (NewRow U × Option Nat)} {st' : Nat → Prop} {t : TypeId} {x y : AVal U} {is : List (NewRow U × Option Nat)} {v : Value} (h : frVal C s.objs t x = some (y, is)) (hx : Rel C.E w ρ (Stab N ρ w) x v) :
    is.map (·.1) = news2 y ∧ (∀ p ∈ is, PairOK C s p) ∧ (∀ l, y ≠ .tup l) ∧ ∀ k, (∀ j, j < is.length → ids[k + j]? = is[j]?) → Rel C.E w (takeR ρ ids) st' (lm2 (own1 (fun k => k)) k y) v := by
  unfold frVal at h
  split at h
  · rename_i l
    split at h
    · rename_i ys is1 h1
      cases h
      cases hx with
      | agg _ vs hn hl =>
        obtain ⟨b1, b2, b3, b4⟩ := frLeaves_sound (ids := ids) (st' := st') hR _ l ys is vs.toList h1 (by simpa using hn) (fun k hk => by rw [getD_toList]; exact hl k hk)
        refine ⟨b1, b2, (fun l e => by cases e), fun k hk => .agg _ vs (by rw [lm1_len, b3, hn]) (fun i hi => ?_)⟩
        have := b4 k hk i hi
        rwa [getD_toList] at this
    · cases h
  · obtain ⟨a1, a2, a4, a5, a3⟩ := frLeaf_sound (ids := ids) (st' := st') hR h hx
    have e1 : news2 y = news1 y := by
      cases y <;> first | rfl | exact absurd rfl (a4 _)
    have e2 : ∀ k, lm2 (own1 fun k => k) k y = own1 (fun k => k) k y := fun k => by
      cases y <;> first | rfl | exact absurd rfl (a4 _)
    refine ⟨by rw [e1]; exact a1, a2, a5, fun k hk => ?_⟩
    rw [e2]
    exact a3 k hk

theorem resAll_sound (hR : RR C.E n N w0 ρ s a w) (hN : ∀ b, N b → b < w0.heap.size) {fr : Bool} {ids : List (NewRow U × Option Nat)} {st' : Nat → Prop} (hst : ∀ b, Out' N w b → (fr = false → st' b)) : ∀ (rs : List ResultVar) (ts : List TypeId) (ys : List (AVal U)) (is : List (NewRow U × Option Nat)), resAll C fr s ts rs = some (ys, is) →
    ∃ vs, (rs.mapM (fun
      | .tmp t => pure (a.tmps.getD t undef)
      | .cell x t => do loadVar t (← asAddr (a.tmps.getD x undef))) : Sem (List Value)).run C.P w = .ok vs w ∧ vs.length = ys.length ∧ is.map (·.1) = ys.flatMap news2 ∧ (∀ p ∈ is, PairOK C s p) ∧
        ∀ k, (∀ j, j < is.length → ids[k + j]? = is[j]?) → ∀ i (h : i < (lm3 (own1 (fun k => k)) k ys).length), Rel C.E w (takeR ρ ids) st' (lm3 (own1 (fun k => k)) k ys)[i] (vs.getD i undef) := by
  intro rs
  induction rs with
  | nil =>
    intro ts ys is h
    cases ts with
    | nil =>
      cases h
      exact ⟨[], rfl, rfl, rfl, (fun p hp => by simp at hp), fun k hk i hi => absurd hi (by simp [lm3])⟩
    | cons t ts => cases h
  | cons r rs ih =>
    intro ts ys is h
    cases ts with
    | nil => cases h
    | cons t ts =>
      simp only [resAll] at h
      split at h
      · rename_i y is1 ys1 js1 h1 h2
        cases h
        obtain ⟨vs, e1, e2, e3, e4, e6⟩ := ih ts ys1 js1 h2
        have key : ∃ v, (match r with
            | .tmp t => pure (a.tmps.getD t undef)
            | .cell x t => do loadVar t (← asAddr (a.tmps.getD x undef)) : Sem Value).run C.P w = .ok v w ∧ is1.map (·.1) = news2 y ∧ (∀ p ∈ is1, PairOK C s p) ∧
              ∀ k, (∀ j, j < is1.length → ids[k + j]? = is1[j]?) → Rel C.E w (takeR ρ ids) st' (lm2 (own1 (fun k => k)) k y) v := by
          unfold resOne at h1
          split at h1
          · rename_i x hx
            obtain ⟨v, hrun, hv⟩ := resVal_sound hR hx
            cases fr with
            | true =>
              obtain ⟨b1, b2, b3, b4⟩ := frVal_sound (ids := ids) (st' := st') hR h1 hv
              exact ⟨v, hrun, b1, b2, b4⟩
            | false =>
              simp only at h1
              split at h1
              · rename_i z hz
                cases h1
                have hz' := resContent_sound hR hv hz
                refine ⟨v, hrun, (down_news2 _ rfl 0 z).symm, (fun p hp => by simp at hp), fun k hk => ?_⟩
                rw [down_own2]
                have hone : ∀ {c : AVal U} {u : Value}, Rel C.E w noOwn (Out' N w) c u → Rel C.E w (takeR ρ ids) st' (down1 c) u := fun {c u} hc => by
                  have : down1 c = c := by
                    cases c <;> first | rfl | (cases hc; done)
                  rw [this]
                  exact hc.mono (fun b hb => ⟨hst b hb rfl, rfl⟩) (fun _ _ _ hr => by cases hr)
                cases z with
                | agg l =>
                  simp only [lm2]
                  rw [down_lm1]
                  cases hz' with
                  | agg _ vs hn hl => exact .agg _ vs (by simpa using hn) (fun i hi => by
                      have hi' : i < l.length := by simpa using hi
                      rw [List.getElem_map]
                      exact hone (hl i hi'))
                | _ => exact hone hz'
              · cases h1
          · cases h1
        obtain ⟨v, k1, k2, k3, k5⟩ := key
        refine ⟨v :: vs, ?_, by simp [e2], by rw [List.map_append, List.flatMap_cons, k2, e3], fun p hp => ?_, fun k hk i hi => ?_⟩
        · simp only [List.mapM_cons, Sem.run_bind]
          rw [k1]
          simp only [Result.andThen_ok]
          rw [e1]
          rfl
        · rcases List.mem_append.1 hp with hp | hp
          · exact k3 p hp
          · exact e4 p hp
        · have hlen : (news2 y).length = is1.length := by rw [← k2, List.length_map]
          cases i with
          | zero =>
            refine k5 k (fun j hj => ?_)
            rw [hk j (by simp; omega), List.getElem?_append_left hj]
          | succ i =>
            have hi' : i < (lm3 (own1 fun k => k) (k + (news2 y).length) ys1).length := by simpa [lm3] using hi
            refine e6 (k + (news2 y).length) (fun j hj => ?_) i hi'
            rw [hlen, Nat.add_assoc, hk (is1.length + j) (by simp; omega), List.getElem?_append_right (by omega), Nat.add_sub_cancel_left]
      · cases h

theorem resAll_false {C : Cfg U} {s : ASt U} : ∀ (rs : List ResultVar) (ts : List TypeId) (ys : List (AVal U)) (is : List (NewRow U × Option Nat)), resAll C false s ts rs = some (ys, is) → is = [] := by
  intro rs
  induction rs with
  | nil =>
    intro ts ys is h
    cases ts with
    | nil => cases h; rfl
    | cons t ts => cases h
  | cons r rs ih =>
    intro ts ys is h
    cases ts with
    | nil => cases h
    | cons t ts =>
      simp only [resAll] at h
      split at h
      · rename_i y is1 ys1 js1 h1 h2
        cases h
        rw [ih ts ys1 js1 h2]
        unfold resOne at h1
        split at h1
        · simp only at h1
          split at h1
          · cases h1; rfl
          · cases h1
        · cases h1
      · cases h

theorem onceIds_spec : ∀ (l : List (NewRow U × Option Nat)), onceIds l = true → ∀ (a b : Nat) (x y : NewRow U) (i j : Nat), a < b → l[a]? = some (x, some i) → l[b]? = some (y, some j) → i ≠ j := by
  intro l
  induction l with
  | nil => intro _ a b x y i j _ h; simp at h
  | cons p l ih =>
    intro h a b x y i j hab ha hb
    obtain ⟨r, o⟩ := p
    cases b with
    | zero => omega
    | succ b =>
      simp only [List.getElem?_cons_succ] at hb
      cases a with
      | zero =>
        simp only [List.getElem?_cons_zero, Option.some.injEq, Prod.mk.injEq] at ha
        obtain ⟨rfl, rfl⟩ := ha
        simp only [onceIds, Bool.and_eq_true, Bool.not_eq_true'] at h
        intro e
        subst e
        have := List.any_eq_false.1 h.1 _ (List.mem_of_getElem? hb)
        simp at this
      | succ a =>
        simp only [List.getElem?_cons_succ] at ha
        have hl : onceIds l = true := by
          cases o with
          | some i => simp only [onceIds, Bool.and_eq_true] at h; exact h.2
          | none => exact h
        exact ih hl a b x y i j (by omega) ha hb

theorem takeR_spec (hR : RR C.E n N w0 ρ s a w) {is : List (NewRow U × Option Nat)} (hon : onceIds is = true) (hp : ∀ p ∈ is, PairOK C s p) :
    (∀ b, Stab N ρ w b → Stab N (takeR ρ is) w b) ∧ (∀ (k : Nat) (t : U.τ) (xs : List (U.T t)) o, is[k]? = some ((⟨t, xs⟩ : NewRow U), o) → RelObj C.E w (takeR ρ is) (Stab N (takeR ρ is) w) w0.heap.size k (.row t 0 xs)) ∧
    (∀ k g u, takeR ρ is k = some (g, u) → k < is.length) ∧ ∀ id id' g g' u u' b, takeR ρ is id = some (g, u) → takeR ρ is id' = some (g', u') → id ≠ id' → blk u = some b → blk u' ≠ some b := by
  have inv : ∀ k g u, takeR ρ is k = some (g, u) → (∃ r id g0, is[k]? = some (r, some id) ∧ ρ id = some (g0, u)) ∨ u = .slice none 0 0 := by
    intro k g u h
    unfold takeR at h
    split at h
    · rename_i r id hk
      split at h
      · rename_i g0 u0 hu
        cases h
        exact .inl ⟨_, id, _, hk, hu⟩
      · cases h
    · cases h
      exact .inr rfl
    · cases h
  have hst : ∀ b, Stab N ρ w b → Stab N (takeR ρ is) w b := fun b ⟨q1, q2, q3⟩ => ⟨q1, q2, fun k g u hr hbl => by
    rcases inv k g u hr with ⟨r, id, g0, _, hu⟩ | rfl
    · exact q3 _ _ _ hu hbl
    · cases hbl⟩
  refine ⟨hst, fun k t xs o hk => ?_, fun k g u h => ?_, fun i j g g' u u' b hi hj hij hbi hbj => ?_⟩
  · have hpk := hp _ (List.mem_of_getElem? hk)
    cases o with
    | some id =>
      obtain ⟨g, hob⟩ : ∃ g, s.objs id = some (.row t g xs) := hpk
      obtain ⟨u, cs, q1, q2, q3, q4⟩ := hR.objs _ _ hob
      refine ⟨u, cs, ?_, q2, q3, fun i hi k' hk' => ?_⟩
      · unfold takeR
        rw [hk]
        simp [q1]
      · exact ((q4 i hi k' hk').flat (ρ' := noOwn) (C.E.enc_flat t _ _ (List.getElem_mem hk')).1).mono (fun b hb => ⟨hst b hb, rfl⟩) (fun _ _ _ hr => by cases hr)
    | none =>
      obtain rfl : xs = [] := hpk
      refine ⟨.slice none 0 0, [], ?_, (fun a e => by cases e), World.ownsRow_nil _ _ _ _, fun i hi => absurd hi (by simp)⟩
      unfold takeR
      rw [hk]
  · rcases Nat.lt_or_ge k is.length with hl | hl
    · exact hl
    · unfold takeR at h
      rw [List.getElem?_eq_none hl] at h
      cases h
  · rcases inv i g u hi with ⟨r, id, g0, h1, h2⟩ | rfl
    · rcases inv j g' u' hj with ⟨r', id', g0', h1', h2'⟩ | rfl
      · have hne : id ≠ id' := by
          rcases Nat.lt_or_gt_of_ne hij with hlt | hgt
          · exact onceIds_spec is hon i j _ _ _ _ hlt h1 h1'
          · exact (onceIds_spec is hon j i _ _ _ _ hgt h1' h1).symm
        exact hR.sep _ _ _ _ _ _ b h2 h2' hne hbi hbj
      · cases hbj
    · cases hbi

theorem result_sound (hR : RR C.E n N w0 ρ s a w) (hN : ∀ b, N b → b < w0.heap.size) {fr : Bool} {fn : Func} {y : AVal U} (h : result C fr fn s = some y) : ∃ v, (results fn a.tmps).run C.P w = .ok v w ∧ Fresh C.E w0.heap.size N w y v := by
  have main : ∀ l is, resAll C fr s fn.resultTypes.toList fn.results.toList = some (l, is) → onceIds is = true → ∃ vs : List Value, (fn.results.mapM (fun
      | .tmp t => pure (a.tmps.getD t undef)
      | .cell x t => do loadVar t (← asAddr (a.tmps.getD x undef))) : Sem (Array Value)).run C.P w = .ok vs.toArray w ∧ vs.length = l.length ∧ is.map (·.1) = l.flatMap news2 ∧
      (∀ (k : Nat) (t : U.τ) (xs : List (U.T t)), (l.flatMap news2)[k]? = some (⟨t, xs⟩ : NewRow U) → RelObj C.E w (takeR ρ is) (Stab N (takeR ρ is) w) w0.heap.size k (.row t 0 xs)) ∧
      (∀ k g u, takeR ρ is k = some (g, u) → k < (l.flatMap news2).length) ∧ (∀ id id' g g' u u' b, takeR ρ is id = some (g, u) → takeR ρ is id' = some (g', u') → id ≠ id' → blk u = some b → blk u' ≠ some b) ∧
      ∀ i (h : i < (lm3 (own1 (fun k => k)) 0 l).length), Rel C.E w (takeR ρ is) (Stab N (takeR ρ is) w) (lm3 (own1 (fun k => k)) 0 l)[i] (vs.getD i undef) := fun l is hl hon => by
    obtain ⟨vs, h1, h2, h3, h4, h5⟩ := resAll_sound (ids := is) (st' := Stab N (takeR ρ is) w) hR hN (fr := fr) (fun b hb hf => by
      subst hf
      have := resAll_false _ _ _ _ hl
      subst this
      exact ⟨hb.1, hb.2, fun k g u hr => by cases hr⟩) _ _ l is hl
    obtain ⟨t1, t2, t3, t4⟩ := takeR_spec hR hon h4
    refine ⟨vs, ?_, h2, h3, fun k t xs hk => ?_, fun k g u hk => ?_, t4, h5 0 (fun j hj => by rw [Nat.zero_add])⟩
    · rw [Array.mapM_eq_mapM_toList]
      simp only [Sem.run_map]
      rw [h1]
      rfl
    · rw [← h3, List.getElem?_map] at hk
      obtain ⟨p, hp1, hp2⟩ := Option.map_eq_some_iff.1 hk
      obtain ⟨r, o⟩ := p
      simp only at hp2
      subst hp2
      exact t2 k t xs o hp1
    · rw [← h3, List.length_map]
      exact t3 k g u hk
  unfold result at h
  split at h
  · rename_i x is hx
    have hnt : ∀ l, x ≠ .tup l := fun l e => by
      subst e
      cases h
    have hon : onceIds is = true ∧ x = y := by
      split at h
      · cases h
      · obtain ⟨h1, h2⟩ := cond_some h
        cases h2
        exact ⟨h1, rfl⟩
    obtain ⟨hon, rfl⟩ := hon
    obtain ⟨vs, h1, h2, h3, h4, h5, h6, h7⟩ := main _ _ hx hon
    have en : x.news = news2 x := by
      cases x <;> first | rfl | exact absurd rfl (hnt _)
    have eo : x.ownAs (fun k => k) = lm2 (own1 (fun k => k)) 0 x := by
      cases x <;> first | rfl | exact absurd rfl (hnt _)
    have e1 : [x].flatMap news2 = news2 x := by simp
    match vs, h2 with
    | [v], _ =>
      refine ⟨v, ?_, takeR ρ is, ?_, ?_, ?_, h6⟩
      · simp only [results, Sem.run_bind]
        exact Eq.trans (congrArg (fun r : Result (Array Value) => r.andThen _) h1) rfl
      · rw [eo]
        exact h7 0 (by simp [lm3])
      · intro k t xs hk
        exact h4 k t xs (by rw [e1, ← en]; exact hk)
      · intro k g u hk
        have := h5 k g u hk
        rw [e1, ← en] at this
        exact this
  · rename_i l is hne hl
    obtain ⟨hon, h⟩ := cond_some h
    cases h
    obtain ⟨vs, h1, h2, h3, h4, h5, h6, h7⟩ := main _ _ hl hon
    refine ⟨.tuple vs.toArray, ?_, takeR ρ is, .tup _ vs.toArray (by rw [lm3_len]; simpa using h2) (fun k hk => by simpa using h7 k hk), h4, h5, h6⟩
    have hn : ¬ vs.toArray.size = 1 := fun e => by
      have hl1 : l.length = 1 := by rw [← h2]; simpa using e
      match l, hl1 with
      | [x], _ => exact hne x rfl
    simp only [results, Sem.run_bind]
    refine Eq.trans (congrArg (fun r : Result (Array Value) => r.andThen _) h1) ?_
    simp only [Result.andThen_ok, dif_neg hn]
    rfl
  · cases h

/-- What the interpreter says of a call. -/
theorem calls_of_exec (hs : SumOK C) (hinv : C.inv w) (hmix : C.P.follows .mixedOrders = true) {f : FuncId} {fn : Func} {c : Code} (hf : C.P.funcs[f]? = some fn) (hb : fn.body = some c) {args : Array Value} {xs : List (AVal U)} (hN : ∀ b, N b → b < w.heap.size)
    (hargs : RelArgs C.E w N xs args) (hlen : xs.length ≤ fn.ntmps) {fr : Bool} {Post : AVal U → Prop} (h : exec C fn.ntmps M fuel 0 c (initSt xs) (AEnds C fr fn Post)) :
    Calls C.P f args w fun e w' => ∃ v, e = .returned v ∧ (∃ r, Post r ∧ Fresh C.E w.heap.size N w' r v) ∧ Below w.heap.size w w' := by
  refine calls_of_wp hf hb ?_
  have hsz : args.size = xs.length := hargs.1
  have hR : RR C.E fn.ntmps N w noOwn (initSt xs) { tmps := args ++ Array.replicate (fn.ntmps - args.size) undef, defers := [] } w := by
    refine ⟨rfl, by simp; omega, fun t => ?_, (fun id ob ho => by cases ho), (fun id g u hr => by cases hr), (fun _ _ _ _ _ _ _ hr => by cases hr), Below.refl _ _, hN⟩
    show Rel C.E w noOwn _ (xs.getD t (.raw undef)) _
    by_cases ht : t < xs.length
    · have h1 := hargs.2 t ht
      have e1 : xs.getD t (.raw undef) = xs[t] := by simp [ht]
      have e2 : (args ++ Array.replicate (fn.ntmps - args.size) undef).getD t undef = args.getD t undef := by
        have : t < args.size := by omega
        simp [Array.getElem?_append, this]
      rw [e1, e2]
      exact h1.mono (fun b hb => ⟨⟨hb.1, hb.2, fun _ _ _ hr => by cases hr⟩, rfl⟩) (fun _ _ _ hr => by cases hr)
    · have e1 : xs.getD t (.raw undef) = .raw undef := by
        have : xs.length ≤ t := by omega
        simp [this]
      have e2 : (args ++ Array.replicate (fn.ntmps - args.size) undef).getD t undef = undef := by
        have h2 : ¬ t < args.size := by omega
        simp only [Array.getD_eq_getD_getElem?, Array.getElem?_append, if_neg h2]
        by_cases h3 : t - args.size < fn.ntmps - args.size
        · simp [h3]
        · simp [h3]
      rw [e1, e2]
      exact .raw _
  refine exec_sound (hs.at hinv) hmix c 0 _ _ noOwn _ w _ h hR (fun e s' ρ' a' w' hK hR' => ?_)
  have fin : (match result C fr fn s' with
    | some r => Post r
    | none => False) → a'.defers = [] ∧ ∃ v, (results fn a'.tmps).run C.P w' = .ok v w' ∧ ∃ v_1, Ending.returned v = .returned v_1 ∧ (∃ r, Post r ∧ Fresh C.E w.heap.size N w' r v_1) ∧ Below w.heap.size w w' := fun hK => by
    split at hK
    · rename_i r hr
      obtain ⟨v, h1, h2⟩ := result_sound hR' hN hr
      exact ⟨hR'.defers, v, h1, v, rfl, ⟨r, hK, h2⟩, hR'.below⟩
    · exact hK.elim
  cases e with
  | normal => exact fin hK
  | exit id => exact hK.elim
  | ret => exact fin hK
end
end Go.Vm

namespace Go.Vm
open Go.RowKit
set_option linter.unusedVariables false

section
variable {U : Univ}

/-- The bodies of the loops of a code, in the text's order. -/
def loopsOf : Code → List Code
  | .seq x y => loopsOf x ++ loopsOf y
  | .cond _ x y => loopsOf x ++ loopsOf y
  | .block _ c => loopsOf c
  | .loop c => c :: loopsOf c
  | _ => []

abbrev Model (U : Univ) := List (AVal U) → Option (List Prop × AVal U)

def Cfg.add (C : Cfg U) (f : FuncId) (m : Model U) : Cfg U := { C with sum := fun g => cond (Nat.beq g f) (some m) (C.sum g) }

theorem callFunc_run {P : Program} {f : FuncId} {fn : Func} {c : Code} (hf : P.funcs[f]? = some fn) (hn : (fn.name == "runtime.NumGoroutine") = false) (hb : fn.body = some c) (args : Array Value) (w : World) :
    (callFunc f args).run P w = .ok (.enter f args) w := by
  have hn' : fn.name ≠ "runtime.NumGoroutine" := by simpa using hn
  simp [callFunc, hf, hn', hb]

theorem RelArgs.nlt {E : Enc U} {w : World} {N : Nat → Prop} {xs : List (AVal U)} {args : Array Value} (h : RelArgs E w N xs args) : args.size = xs.length := h.1

theorem SumOK.add {C : Cfg U} (hs : SumOK C) (hmix : C.P.follows .mixedOrders = true) {f : FuncId} {m : Model U} {fn : Func} {c : Code} (hf : C.P.funcs[f]? = some fn) (hn : (fn.name == "runtime.NumGoroutine") = false)
    (hb : fn.body = some c) (hx : ∀ xs cs r, m xs = some (cs, r) → conj cs → Nat.ble xs.length fn.ntmps = true ∧ ∃ M fuel fr, exec C fn.ntmps M fuel 0 c (initSt xs) (AEnds C fr fn fun r' => r' = r)) : SumOK (C.add f m) := by
  intro g m' hg
  simp only [Cfg.add, cond_beq] at hg
  by_cases h : g = f
  · subst h
    rw [if_pos rfl] at hg
    obtain rfl := Option.some.inj hg
    refine ⟨fun args w => callFunc_run (P := C.P) hf hn hb args w, fun N w args xs cs r hinv hN hargs hm hc => ?_⟩
    obtain ⟨hl, M, fuel, fr, hex⟩ := hx xs cs r hm hc
    refine (calls_of_exec (w := w) (N := N) hs hinv hmix hf hb hN hargs (Nat.le_of_ble_eq_true hl) hex).mono ?_
    rintro e w' ⟨v, rfl, ⟨r', rfl, hr⟩, hbw⟩
    exact ⟨v, rfl, hr, hbw⟩
  · rw [if_neg h] at hg
    exact hs g m' hg

/-- A contract that was proved otherwise. -/
theorem SumOK.put {C : Cfg U} (hs : SumOK C) {f : FuncId} {m : Model U} (h : (∀ (args : Array Value) (w : World), (callFunc f args).run C.P w = .ok (.enter f args) w) ∧
  ∀ (N : Nat → Prop) (w : World) (args : Array Value) (xs : List (AVal U)) (cs : List Prop) (r : AVal U), C.inv w → (∀ b, N b → b < w.heap.size) → RelArgs C.E w N xs args → m xs = some (cs, r) → conj cs →
    Calls C.P f args w fun e w' => ∃ v, e = .returned v ∧ Fresh C.E w.heap.size N w' r v ∧ Below w.heap.size w w') : SumOK (C.add f m) := by
  intro g m' hg
  simp only [Cfg.add, cond_beq] at hg
  by_cases h' : g = f
  · subst h'
    rw [if_pos rfl] at hg
    obtain rfl := Option.some.inj hg
    exact h
  · rw [if_neg h'] at hg
    exact hs g m' hg

/-- A proposition, not to be unfolded. -/
structure Done (p : Prop) : Prop where
  out : p
theorem Done.of {p q : Prop} (h : p = q) (hq : q) : Done p := ⟨h ▸ hq⟩

theorem SumOK.addD {C : Cfg U} (hs : SumOK C) (hmix : C.P.follows .mixedOrders = true) {f : FuncId} {m : Model U} {fn : Func} {c : Code} (hf : C.P.funcs[f]? = some fn) (hn : (fn.name == "runtime.NumGoroutine") = false)
    (hb : fn.body = some c) (hx : ∀ xs cs r, m xs = some (cs, r) → conj cs → Nat.ble xs.length fn.ntmps = true ∧ ∃ M fuel fr, Done (exec C fn.ntmps M fuel 0 c (initSt xs) (AEnds C fr fn fun r' => r' = r))) : SumOK (C.add f m) :=
  hs.add hmix hf hn hb fun xs cs r h hc => by
    obtain ⟨h1, M, fuel, fr, h2⟩ := hx xs cs r h hc
    exact ⟨h1, M, fuel, fr, h2.out⟩

/-- A result without new memory. -/
theorem Fresh.of {E : Enc U} {base : Nat} {N : Nat → Prop} {w : World} {r : AVal U} {v : Value} (hn : r.news = []) (ho : r.ownAs (fun k => k) = r) (h : Rel E w noOwn (Out' N w) r v) : Fresh E base N w r v := by
  refine ⟨noOwn, ?_, fun k t xs hk => ?_, (fun k g u hr => by cases hr), (fun _ _ _ _ _ _ _ hr => by cases hr)⟩
  · rw [ho]
    exact h.mono (fun b q => ⟨⟨q.1, q.2, fun _ _ _ hr => by cases hr⟩, rfl⟩) (fun _ _ _ hr => by cases hr)
  · rw [hn] at hk
    cases hk

/-- What comes behind a block; behind the first part of a sequence; behind a round of a loop. -/
def kBlock (id : Nat) (K : AEx → ASt U → Prop) : AEx → ASt U → Prop := fun e s' => match e with
  | .exit id' => cond (Nat.beq id' id) (K .normal s') (K (.exit id') s')
  | e => K e s'
def kSeq (C : Cfg U) (n : Nat) (M : Nat → Nat → Canon U) (fuel cur : Nat) (y : Code) (K : AEx → ASt U → Prop) : AEx → ASt U → Prop := fun e s' => match e with
  | .normal => exec C n M fuel cur y s' K
  | e => K e s'
def kIter (B : ASt U → (AEx → ASt U → Prop) → Prop) (m : Nat → Canon U) (f r : Nat) (K : AEx → ASt U → Prop) : AEx → ASt U → Prop := fun e s' => match e with
  | .normal => match canon (m (r + 1)) s' with
    | some s'' => iter B m f (r + 1) s'' K
    | none => False
  | e => match canon (m r) s' with
    | some s'' => K e s''
    | none => False
/-- The parts of a code. -/
noncomputable def bo (f : Func) : Code := f.body.getD .skip
def cF : Code → Code
  | .seq x _ => x
  | c => c
def cS : Code → Code
  | .seq _ y => y
  | c => c
def cB : Code → Code
  | .block _ x => x
  | c => c
def cL : Code → Code
  | .loop x => x
  | c => c
def cT : Code → Code
  | .cond _ x _ => x
  | c => c
def cE : Code → Code
  | .cond _ _ y => y
  | c => c
abbrev w64 (n : Int) : Int := IntKind.i64.wrap n
def mi (a b : Int) : Int := if b < a then b else a
def ma (a b : Int) : Int := if a < b then b else a

theorem back {p q : Prop} (h : p = q) (hq : q) : p := h ▸ hq
end
end Go.Vm

namespace Go.Vm
open Go.RowKit Go.ChangeShapes Go.WideShapes Go.ChangeAt
set_option linter.unusedVariables false

section
variable {H : Type} {enc : TypeId × Value → H} {P : Program} {W W' : World}

theorem trodAll_carry (hl : laidOutB P = true) (hb : Below W.heap.size W W') : ∀ (ts : List TypeId) (vs : List Value) (ds : List (DataW H)) (ps : List MemPlace), ts.all (fun t => P.readableRec t && decide (t < P.types.size)) = true →
    DataW.TrodAll enc P W 0 (fun _ => true) true ts vs ds ps → (∀ x ∈ ps, x.block < W.heap.size) → DataW.TrodAll enc P W' 0 (fun b => decide (b < W.heap.size)) true ts vs ds ps := by
  intro ts
  induction ts with
  | nil =>
    intro vs ds ps _ h _
    cases vs <;> cases ds <;> exact h
  | cons t ts ih =>
    intro vs ds ps hr h hlt
    obtain ⟨v, vs', d, ds', p, q, rfl, rfl, rfl, h0, h1⟩ := trodAll_cons h
    simp only [List.all_cons, Bool.and_eq_true, decide_eq_true_eq] at hr
    exact trodAll_cons_mk (Below.trod hl hr.1.1 hr.1.2 h0 hb fun x hx => hlt x (by simp [hx])) (ih vs' ds' q hr.2 h1 fun x hx => hlt x (by simp [hx]))

/-- A law's end: it returns true, and nothing that was there has turned. -/
theorem law_post {f : Func} {s : ChangeSpec} {tb : TypeId} {args : Array Value} {ds gs : List (DataW H)} {before : List MemPlace} (hl : laidOutB P = true) (hp : f.params.toList.all (fun t => P.readableRec t && decide (t < P.types.size)) = true)
    (hr : f.resultTypes = #[tb]) (h4 : P.underlying tb = some .bool) (hv : s.vars = []) (hs : s.fn H ds = { results := [.lit (.bool true)], args := ds })
    (hW : DataW.Whole enc P f.params.toList s.vars false W args.toList ds gs before) (hb : Below W.heap.size W W') : s.post enc P f false true false false W args (.bool true) W' := by
  have hW' := hW
  obtain ⟨p, q, hA0, hV, rfl, _, _⟩ := hW
  rw [hv] at hV
  obtain ⟨rfl, rfl⟩ := trodVars_none hV
  have hA : DataW.TrodAll enc P W 0 (fun _ => true) true f.params.toList args.toList ds p := hA0
  refine ⟨ds, [], p ++ [], [], p, [], hW', ?_, ?_, ?_, hb.frame _, fun h => by cases h⟩
  · rw [List.append_nil, hs, hr]
    exact trodAll_cons_mk (shut_bool h4 _) trodAll_mk0
  · rw [List.append_nil, hs]
    exact trodAll_carry hl hb _ _ _ _ hp hA fun x hx => hW'.lt x (by simp [hx])
  · rw [List.append_nil, hs, hv]
    rfl
end

section
variable {P : Program} {W : World}

def intAt : Value → Int
  | .int _ n => n
  | _ => 0

theorem cell_int {r : Reach} {base : Nat} {u : TypeId} {k : IntKind} {v : Value} (hu : P.underlying u = some (.int k)) (h : Cell.okWide P W r base u v) : v = .int k (intAt v) ∧ k.has (intAt v) = true := by
  cases v <;> simp_all [Cell.okWide, Cell.ok, intAt]

theorem row_ints {r : Reach} {base : Nat} {t : TypeId} {ts : List TypeId} {cs : Array Value} (hts : P.cellTypes P.depth t = some ts) (hlen : cs.size = ts.length) (hint : ∀ i, i < ts.length → P.underlying (ts.getD i 0) = some (.int .i64))
    (hrow : Row.okWide P W r base t cs) : ∃ ns : List Int, ns.length = ts.length ∧ cs = (ns.map (Value.int .i64)).toArray := by
  obtain ⟨ts', h1, _, h3⟩ := hrow
  obtain rfl : ts = ts' := Option.some.inj (hts.symm.trans h1)
  refine ⟨cs.toList.map intAt, by simp [hlen], ?_⟩
  apply Array.ext
  · simp
  · intro i hi hi'
    obtain ⟨u, hu, hok⟩ := h3 i cs[i] (by simp [hi])
    have hi2 : i < ts.length := by omega
    rw [Nat.mod_eq_of_lt hi2] at hu
    have hint' := hint i hi2
    rw [List.getD_eq_getElem?_getD, hu] at hint'
    simpa using (cell_int hint' hok).1

/-- A value whose cells are numbers, by the outer form of its type alone. -/
theorem open_ints {r : Reach} {base : Nat} {t : TypeId} {v : Value} {ts : List TypeId} (hs : isAggT P t = true) (hts : P.cellTypes P.depth t = some ts) (hlen : P.cellsOf t = ts.length) (hint : ∀ i, i < ts.length → P.underlying (ts.getD i 0) = some (.int .i64))
    (hv : Value.okWide P W r base t v) : ∃ ns : List Int, ns.length = ts.length ∧ v = .agg (ns.map (Value.int .i64)).toArray := by
  unfold isAggT at hs
  unfold Value.okWide at hv
  split at hs
  · rename_i fs hu
    rw [hu] at hv
    obtain ⟨cs, rfl, hsz, hrow⟩ := hv
    obtain ⟨ns, h1, rfl⟩ := row_ints hts (hsz.trans hlen) hint hrow
    exact ⟨ns, h1, rfl⟩
  · rename_i n e hu
    rw [hu] at hv
    obtain ⟨cs, rfl, hsz, hrow⟩ := hv
    obtain ⟨ns, h1, rfl⟩ := row_ints hts (hsz.trans hlen) hint hrow
    exact ⟨ns, h1, rfl⟩
  · cases hs

/-- Numbers as abstract cells. -/
theorem rel_ints {U : Univ} {E : Enc U} {w : World} {ρ : Nat → Option (Nat × Value)} {st : Nat → Prop} (ns : List Int) : Rel E w ρ st (.agg (ns.map (AVal.int .i64))) (.agg (ns.map (Value.int .i64)).toArray) := by
  refine .agg _ _ (by simp) (fun k hk => ?_)
  have hk' : k < ns.length := by simpa using hk
  simpa [hk'] using Rel.int _ _
end

section
variable {U : Univ} {C : Cfg U}

/-- A law's walk, from the interpreter. -/
theorem law_calls {M : Nat → Nat → Canon U} {fuel : Nat} (hs : SumOK C) (hmix : C.P.follows .mixedOrders = true) {f : FuncId} {fn : Func} {c : Code} (hf : C.P.funcs[f]? = some fn) (hb : fn.body = some c) {args : Array Value} {xs : List (AVal U)} {w : World} (hinv : C.inv w)
    (hargs : RelArgs C.E w (fun b => b < w.heap.size) xs args) (hlen : Nat.ble xs.length fn.ntmps = true) {fr : Bool} (h : Done (exec C fn.ntmps M fuel 0 c (initSt xs) (AEnds C fr fn fun r => r = .bool true))) :
    Calls C.P f args w fun e w' => e = .returned (.bool true) ∧ Below w.heap.size w w' := by
  refine (calls_of_exec hs hinv hmix hf hb (fun _ h => h) hargs (Nat.le_of_ble_eq_true hlen) h.out).mono ?_
  rintro e w' ⟨v, rfl, ⟨r, rfl, ⟨ρ, hr, _⟩⟩, hbw⟩
  cases hr
  exact ⟨rfl, hbw⟩
end
end Go.Vm

namespace Go.Vm
open Go.RowKit Go.ChangeShapes Go.WideShapes Go.ChangeAt Go.Deep
set_option linter.unusedVariables false

section
variable {P : Program}

/-- Kinds of leaves that are opened here. -/
def leafKind (P : Program) (t : TypeId) : Bool :=
  match P.underlying t with
  | some (.int _) | some .bool | some .string | some (.slice _) => true
  | _ => false

def fieldsOK (P : Program) (ok : TypeId → Bool) (len : TypeId → Nat) : List Field → Nat → Nat → Bool
  | [], off, tot => Nat.beq off tot
  | f :: fs, off, tot => Nat.beq f.offset off && Nat.beq (P.cellsOf f.type) (len f.type) && ok f.type && fieldsOK P ok len fs (off + P.cellsOf f.type) tot

/-- A type of structs all the way down to the leaves, laid out one behind another. -/
def flatOK (P : Program) : Nat → TypeId → Bool
  | 0, t => leafKind P t
  | d + 1, t => match P.underlying t with
    | some (.struct fields) => fieldsOK P (flatOK P d) (fun t => (leafTys P d t).length) fields.toList 0 (P.cellsOf t)
    | some (.array _ _) => false
    | _ => leafKind P t

variable {H : Type} {enc : TypeId × Value → H} {w : World} {base : Nat} {sp : Nat → Bool} {held : Bool}

theorem trod_leaf {t : TypeId} {fuel : Nat} {cs : List Value} {x : DataW H × List MemPlace} (hk : leafKind P t = true) (h : DataW.trod enc P w base sp held fuel t cs = some x) :
    cs.length = 1 ∧ ∃ fuel' y, DataW.trod enc P w base sp held fuel' t [cs.getD 0 undef] = some y := by
  have h' := h
  unfold leafKind at hk
  cases fuel with
  | zero => cases h
  | succ fuel =>
    unfold DataW.trod at h
    split at h <;> first
      | exact ⟨rfl, _, _, h'⟩
      | (rename_i heq; rw [heq] at hk; cases hk)
      | cases h

theorem trod_fields {d fuel : Nat} {cs : List Value} {tot : Nat} (hlen : cs.length = tot)
    (ih : ∀ (t : TypeId) (cs : List Value) (x : DataW H × List MemPlace), flatOK P d t = true → DataW.trod enc P w base sp held fuel t cs = some x →
      cs.length = (leafTys P d t).length ∧ ∀ i (h : i < (leafTys P d t).length), ∃ fuel' y, DataW.trod enc P w base sp held fuel' ((leafTys P d t)[i]) [cs.getD i undef] = some y) :
    ∀ (fs : List Field) (off : Nat), fieldsOK P (flatOK P d) (fun t => (leafTys P d t).length) fs off tot = true →
      (∀ f ∈ fs, ∃ y, DataW.trod enc P w base sp held fuel f.type ((cs.drop f.offset).take (P.cellsOf f.type)) = some y) →
      off + (fs.flatMap fun f => leafTys P d f.type).length = tot ∧ ∀ i (h : i < (fs.flatMap fun f => leafTys P d f.type).length), ∃ fuel' y, DataW.trod enc P w base sp held fuel' ((fs.flatMap fun f => leafTys P d f.type)[i]) [cs.getD (off + i) undef] = some y := by
  intro fs
  induction fs with
  | nil =>
    intro off hok _
    exact ⟨by simpa [fieldsOK] using hok, fun i h => absurd h (by simp)⟩
  | cons f fs ihf =>
    intro off hok hall
    simp only [fieldsOK, Bool.and_eq_true] at hok
    obtain ⟨⟨⟨h1, h2⟩, h3⟩, h4⟩ := hok
    have h1' := Nat.eq_of_beq_eq_true h1
    have h2' := Nat.eq_of_beq_eq_true h2
    obtain ⟨y, hy⟩ := hall f (by simp)
    obtain ⟨e1, e2⟩ := ih f.type _ y h3 hy
    obtain ⟨e3, e4⟩ := ihf (off + P.cellsOf f.type) h4 (fun g hg => hall g (by simp [hg]))
    simp only [List.flatMap_cons, List.length_append]
    refine ⟨by omega, fun i hi => ?_⟩
    by_cases hlt : i < (leafTys P d f.type).length
    · obtain ⟨f', y', hy'⟩ := e2 i hlt
      refine ⟨f', y', ?_⟩
      have hg : ((cs.drop f.offset).take (P.cellsOf f.type)).getD i undef = cs.getD (off + i) undef := by
        simp only [List.getD_eq_getElem?_getD, List.getElem?_take, List.getElem?_drop]
        rw [if_pos (by omega), h1']
      rw [hg] at hy'
      rw [List.getElem_append_left hlt]
      exact hy'
    · have hr : i - (leafTys P d f.type).length < (fs.flatMap fun f => leafTys P d f.type).length := by
        omega
      obtain ⟨f', y', hy'⟩ := e4 _ hr
      refine ⟨f', y', ?_⟩
      rw [List.getElem_append_right (by omega)]
      have e : off + P.cellsOf f.type + (i - (leafTys P d f.type).length) = off + i := by omega
      rw [e] at hy'
      exact hy'

theorem mapM_mem {α β : Type} {f : α → Option β} : ∀ {l : List α} {ys : List β}, l.mapM f = some ys → ∀ a ∈ l, ∃ y, f a = some y := by
  intro l
  induction l with
  | nil => intro ys _ a ha; cases ha
  | cons x l ih =>
    intro ys h a ha
    rw [List.mapM_cons] at h
    obtain ⟨y, hy, h⟩ := Option.bind_eq_some_iff.1 h
    obtain ⟨zs, hzs, h⟩ := Option.bind_eq_some_iff.1 h
    rcases List.mem_cons.1 ha with rfl | ha
    · exact ⟨y, hy⟩
    · exact ih hzs a ha

/-- The leaves of what was read. -/
theorem trod_leaves : ∀ (d : Nat) (t : TypeId) (fuel : Nat) (cs : List Value) (x : DataW H × List MemPlace), flatOK P d t = true → DataW.trod enc P w base sp held fuel t cs = some x →
    cs.length = (leafTys P d t).length ∧ ∀ i (h : i < (leafTys P d t).length), ∃ fuel' y, DataW.trod enc P w base sp held fuel' ((leafTys P d t)[i]) [cs.getD i undef] = some y := by
  have leaf : ∀ {t : TypeId} {fuel : Nat} {cs : List Value} {x : DataW H × List MemPlace} {l : List TypeId}, l = [t] → leafKind P t = true → DataW.trod enc P w base sp held fuel t cs = some x →
      cs.length = l.length ∧ ∀ i (h : i < l.length), ∃ fuel' y, DataW.trod enc P w base sp held fuel' (l[i]) [cs.getD i undef] = some y := fun {t fuel cs x l} hl hk h => by
    subst hl
    obtain ⟨h1, h2⟩ := trod_leaf hk h
    refine ⟨h1, fun i hi => ?_⟩
    have : i = 0 := by simpa using hi
    subst this
    exact h2
  intro d
  induction d with
  | zero =>
    intro t fuel cs x hok h
    exact leaf rfl hok h
  | succ d ih =>
    intro t fuel cs x hok h
    unfold flatOK at hok
    split at hok
    · rename_i fields hu
      have hl : leafTys P (d + 1) t = fields.toList.flatMap fun f => leafTys P d f.type := by
        simp only [leafTys, hu]
      rw [hl]
      cases fuel with
      | zero => cases h
      | succ fuel =>
        simp only [DataW.trod, hu] at h
        split at h
        · rename_i hlen
          obtain ⟨ys, hys, _⟩ := Option.map_eq_some_iff.1 h
          have := trod_fields (cs := cs) hlen (fun t cs x => ih t fuel cs x) fields.toList 0 hok (fun f hf => mapM_mem hys f hf)
          refine ⟨by omega, fun i hi => ?_⟩
          have := this.2 i hi
          rwa [Nat.zero_add] at this
        · cases h
    · cases hok
    · rename_i hne hna
      refine leaf ?_ hok h
      unfold leafTys
      split
      · rename_i fs hu
        exact absurd hu (hne fs)
      · rename_i m e hu
        exact absurd hu (hna m e)
      · rfl

/-- Numbers, all of them. -/
theorem trod_ints {d : Nat} {t : TypeId} {fuel : Nat} {cs : List Value} {x : DataW H × List MemPlace} (hok : flatOK P d t = true) (hint : (leafTys P d t).all (fun u => match P.underlying u with | some (.int .i64) => true | _ => false) = true)
    (h : DataW.trod enc P w base sp held fuel t cs = some x) : ∃ ns : List Int, ns.length = (leafTys P d t).length ∧ cs = ns.map (Value.int .i64) := by
  obtain ⟨h1, h2⟩ := trod_leaves d t fuel cs x hok h
  refine ⟨cs.map intAt, by simp [h1], ?_⟩
  apply List.ext_getElem
  · simp
  · intro i hi hi'
    obtain ⟨f', y, hy⟩ := h2 i (by omega)
    have h3 := List.all_eq_true.1 hint _ (List.getElem_mem (show i < (leafTys P d t).length by omega))
    split at h3
    · rename_i hu
      obtain ⟨n, hn, _⟩ := DataW.trod_int hu hy
      have hg : cs.getD i undef = cs[i] := by simp [hi]
      rw [hg] at hn
      simp only [List.cons.injEq, and_true] at hn
      simp [hn, intAt]
    · cases h3

variable {U : Univ} {C : Cfg U}

/-- An abstract value of a leaf's type. -/
def Fits (C : Cfg U) (u : TypeId) (a : AVal U) : Prop :=
  match C.P.underlying u with
  | some (.int k) => ∃ n, a = .int k n ∧ k.has n
  | some .bool => ∃ b, a = .bool b
  | some .string => ∃ s, a = .str s ∧ (s.size : Int) ≤ 9223372036854775807
  | some (.slice e) => ∃ τ xs, C.elt e = some τ ∧ a = .sl τ xs ∧ (xs.length : Int) ≤ 9223372036854775807
  | _ => False

/-- The elements of a kind, from what was read. -/
def Opens (C : Cfg U) (enc : TypeId × Value → H) (w : World) (e : TypeId) (τ : U.τ) : Prop :=
  C.P.cellsOf e = U.size τ ∧ ∀ n cs y, DataW.trod enc C.P w 0 (fun _ => true) true n e cs = some y → ∃ z : U.T τ, ∀ k (hk : k < (C.E.enc τ z).length), Rel C.E w noOwn (Out' (fun _ => False) w) (C.E.enc τ z)[k] (cs.getD k undef)

theorem opens_ints {e : TypeId} {τ : U.τ} (d : Nat) (hs : C.P.cellsOf e = U.size τ) (hok : flatOK C.P d e = true) (hint : (leafTys C.P d e).all (fun u => match C.P.underlying u with | some (.int .i64) => true | _ => false) = true) (hl : (leafTys C.P d e).length = U.size τ)
    (hz : ∀ ns : List Int, ns.length = U.size τ → ∃ z, C.E.enc τ z = ns.map (AVal.int .i64)) : Opens C enc w e τ := by
  refine ⟨hs, fun n cs y h => ?_⟩
  obtain ⟨ns, h1, rfl⟩ := trod_ints hok hint h
  obtain ⟨z, h2⟩ := hz ns (by omega)
  refine ⟨z, fun k hk => ?_⟩
  have hk' : k < ns.length := by rw [h2] at hk; simpa using hk
  simp only [h2]
  simpa [hk'] using Rel.int _ _

theorem leaf_rel {u : TypeId} {v : Value} {b0 fuel : Nat} {y : DataW H × List MemPlace} (hE : ∀ e, C.P.underlying u = some (.slice e) → ∃ τ, C.elt e = some τ ∧ Opens C enc w e τ)
    (hk : leafKind C.P u = true) (hok : Cell.okWide C.P w .any b0 u v) (h : DataW.trod enc C.P w 0 (fun _ => true) true fuel u [v] = some y) :
    ∃ a, Fits C u a ∧ Rel C.E w noOwn (Out' (fun _ => False) w) a v := by
  unfold leafKind at hk
  unfold Fits
  split at hk
  · rename_i k hu
    obtain ⟨h1, h2⟩ := cell_int hu hok
    exact ⟨.int k (intAt v), ⟨_, rfl, by simpa using h2⟩, by rw [h1]; exact .int _ _⟩
  · rename_i hu
    unfold Cell.okWide Cell.ok at hok
    rw [hu] at hok
    cases v <;> first | exact ⟨.bool _, ⟨_, rfl⟩, .bool _⟩ | exact hok.elim
  · rename_i hu
    unfold Cell.okWide Cell.ok at hok
    rw [hu] at hok
    cases v <;> first | exact ⟨.str _, ⟨_, rfl, hok⟩, .str _⟩ | exact hok.elim
  · rename_i e hu
    obtain ⟨τ, hτ, hs, hel⟩ := hE e hu
    rcases open_slice hu h with ⟨h1, _⟩ | ⟨a, len, cap, m, n, D, Pl, h1, hb, hl, hm, hmm, hx, hall⟩
    · simp only [List.cons.injEq, and_true] at h1
      subst h1
      exact ⟨.sl τ [], ⟨τ, [], hτ, rfl, by simp⟩, .sl0 τ⟩
    · simp only [List.cons.injEq, and_true] at h1
      subst h1
      have hmc : m = cap := by simpa using hmm
      subst hmc
      have hhas : w.has C.P .any b0 a e m := by
        unfold Cell.okWide Cell.ok at hok
        rw [hu] at hok
        exact hok.2.2
      obtain ⟨_, hspot, row, cells, hsh, _⟩ := hhas
      obtain ⟨b, o, spot⟩ := a
      simp only at hspot
      subst hspot
      have hblk : b < w.heap.size := by
        unfold World.shape? at hsh
        rcases Nat.lt_or_ge b w.heap.size with h | h
        · exact h
        · simp [Array.getElem?_eq_none h] at hsh
      obtain ⟨Z, hZ⟩ := choose_lt (α := Option (U.T τ) × List Value) (n := len) (p := fun i z => ∃ q, z.1 = some q ∧ w.cells? 0 (Addr.add ⟨b, o, none⟩ (i * C.P.cellsOf e)) (C.P.cellsOf e) = some z.2 ∧ ∀ k (hk : k < (C.E.enc τ q).length), Rel C.E w noOwn (Out' (fun _ => False) w) (C.E.enc τ q)[k] (z.2.getD k undef)) (fun i hi => by
        obtain ⟨cs', h3, h4⟩ := hall i (by omega)
        obtain ⟨z, hz⟩ := hel n cs' _ h4
        exact ⟨(some z, cs'), z, rfl, h3, hz⟩)
      have hxs : ∃ xs : List (U.T τ), xs.length = len ∧ ∀ i (h : i < xs.length), (Z i).1 = some xs[i] := by
        have : ∀ j, j ≤ len → ∃ xs : List (U.T τ), xs.length = j ∧ ∀ i (h : i < xs.length), (Z i).1 = some xs[i] := by
          intro j
          induction j with
          | zero => intro _; exact ⟨[], rfl, fun i h => absurd h (by simp)⟩
          | succ j ihj =>
            intro hj
            obtain ⟨xs, e1, e2⟩ := ihj (by omega)
            obtain ⟨q, hq, _⟩ := hZ j (by omega)
            refine ⟨xs ++ [q], by simp [e1], fun i hi => ?_⟩
            by_cases hij : i < xs.length
            · rw [List.getElem_append_left hij]
              exact e2 i hij
            · have : i = j := by simp at hi; omega
              subst this
              simp [e1, hq]
        exact this len (Nat.le_refl _)
      obtain ⟨xs, e1, e2⟩ := hxs
      have hrel : ∀ i (h : i < xs.length) k (hk : k < (C.E.enc τ xs[i]).length), w.cell? ⟨b, o + (i * U.size τ + k), none⟩ = some ((Z i).2.getD k undef) ∧ Rel C.E w noOwn (Out' (fun _ => False) w) (C.E.enc τ xs[i])[k] ((Z i).2.getD k undef) := by
        intro i hi k hk
        obtain ⟨q, hq, h3, h4⟩ := hZ i (by omega)
        have hqx : q = xs[i] := by
          have := e2 i hi
          rw [hq] at this
          exact Option.some.inj this
        subst hqx
        refine ⟨?_, h4 k hk⟩
        obtain ⟨_, hlen, hcell⟩ := World.cells?_some h3
        have hk' : k < U.size τ := by rw [C.E.enc_len] at hk; exact hk
        have := hcell k (by rw [hs]; exact hk')
        rw [Addr.add_at, Addr.add_at, hs] at this
        rw [← Nat.add_assoc]
        rw [this]
        have hkl : k < (Z i).2.length := by rw [hlen, hs]; exact hk'
        simp [hkl]
      have hpos := C.E.pos τ
      refine ⟨.sl τ xs, ⟨τ, xs, hτ, rfl, ?_⟩, ?_⟩
      · have : m ≤ maxLen := hm
        unfold maxLen at this
        omega
      · have := Rel.sl (E := C.E) (w := w) (ρ := noOwn) (st := Out' (fun _ => False) w) τ xs b o m (fun j => (Z (j / U.size τ)).2.getD (j % U.size τ) undef) ⟨hblk, fun h => h⟩ (by omega) (fun j hj => by
          have h5 : j / U.size τ < xs.length := Nat.div_lt_of_lt_mul (by rw [Nat.mul_comm]; exact hj)
          have h6 : j % U.size τ < U.size τ := Nat.mod_lt _ hpos
          have := (hrel (j / U.size τ) h5 (j % U.size τ) (by rw [C.E.enc_len]; exact h6)).1
          have h7 : j / U.size τ * U.size τ + j % U.size τ = j := by rw [Nat.mul_comm]; exact Nat.div_add_mod j _
          rw [h7] at this
          exact this) (fun i hi k hk => by
          have hk' : k < U.size τ := by rw [C.E.enc_len] at hk; exact hk
          have h7 : (i * U.size τ + k) / U.size τ = i := by
            rw [Nat.mul_comm, Nat.mul_add_div hpos, Nat.div_eq_of_lt hk', Nat.add_zero]
          have h8 : (i * U.size τ + k) % U.size τ = k := by
            rw [Nat.mul_comm, Nat.mul_add_mod, Nat.mod_eq_of_lt hk']
          simp only [h7, h8]
          exact (hrel i hi k hk).2)
        rw [e1] at this
        exact this
  · cases hk

/-- A struct that came in: its leaves as abstract values. -/
theorem open_agg {t : TypeId} {v : Value} {b0 d : Nat} {x : DataW H} {ps : List MemPlace} 
    (hE : ∀ u ∈ leafTys C.P d t, leafKind C.P u = true ∧ ∀ e, C.P.underlying u = some (.slice e) → ∃ τ, C.elt e = some τ ∧ Opens C enc w e τ) (hs : isAggT C.P t = true) (hts : C.P.cellTypes C.P.depth t = some (leafTys C.P d t)) (hflat : flatOK C.P d t = true)
    (hok : Value.okWide C.P w .any b0 t v) (h : DataW.Trod enc C.P w 0 (fun _ => true) true t v x ps) :
    ∃ as : List (AVal U), as.length = (leafTys C.P d t).length ∧ (∀ i (h : i < as.length) (h' : i < (leafTys C.P d t).length), Fits C (leafTys C.P d t)[i] as[i]) ∧ Rel C.E w noOwn (Out' (fun _ => False) w) (.agg as) v := by
  have hv : ∃ cs, v = .agg cs ∧ Row.okWide C.P w .any b0 t cs := by
    unfold isAggT at hs
    unfold Value.okWide at hok
    split at hs
    · rename_i fs hu
      rw [hu] at hok
      obtain ⟨cs, rfl, _, hrow⟩ := hok
      exact ⟨cs, rfl, hrow⟩
    · rename_i n e hu
      rw [hu] at hok
      obtain ⟨cs, rfl, _, hrow⟩ := hok
      exact ⟨cs, rfl, hrow⟩
    · cases hs
  obtain ⟨cs, rfl, ts', h1, _, hcell⟩ := hv
  rw [hts] at h1
  obtain rfl := Option.some.inj h1
  obtain ⟨fuel, hf⟩ := h
  obtain ⟨hlen, hleaf⟩ := trod_leaves d t fuel _ _ hflat hf
  have hlen' : cs.size = (leafTys C.P d t).length := by simpa [Value.cells] using hlen
  have key : ∀ j, j ≤ cs.size → ∃ as : List (AVal U), as.length = j ∧ ∀ i (h : i < as.length) (h' : i < (leafTys C.P d t).length), Fits C (leafTys C.P d t)[i] as[i] ∧ Rel C.E w noOwn (Out' (fun _ => False) w) as[i] (cs.getD i undef) := by
    intro j
    induction j with
    | zero => intro _; exact ⟨[], rfl, fun i h => absurd h (by simp)⟩
    | succ j ih =>
      intro hj
      obtain ⟨as, e1, e2⟩ := ih (by omega)
      have hjl : j < (leafTys C.P d t).length := by omega
      obtain ⟨f', y, hy⟩ := hleaf j hjl
      have hjc : j < cs.size := by omega
      have hg : (Value.agg cs).cells.toList.getD j undef = cs[j] := by simp [Value.cells, hjc]
      rw [hg] at hy
      obtain ⟨u, hu, hcok⟩ := hcell j cs[j] (by simp [hjc])
      rw [Nat.mod_eq_of_lt hjl, List.getElem?_eq_getElem hjl] at hu
      obtain rfl := Option.some.inj hu
      obtain ⟨hk, hE'⟩ := hE _ (List.getElem_mem hjl)
      obtain ⟨a, ha, hr⟩ := leaf_rel hE' hk hcok hy
      refine ⟨as ++ [a], by simp [e1], fun i hi hi' => ?_⟩
      by_cases hij : i < as.length
      · rw [List.getElem_append_left hij]
        exact e2 i hij hi'
      · have : i = j := by simp at hi; omega
        subst this
        have hgd : cs.getD i undef = cs[i] := by simp [hjc]
        simp only [hgd]
        simp [e1]
        exact ⟨ha, hr⟩
  obtain ⟨as, e1, e2⟩ := key cs.size (Nat.le_refl _)
  exact ⟨as, by omega, fun i h h' => (e2 i h h').1, .agg as cs e1.symm (fun k hk => (e2 k hk (by omega)).2)⟩

/-- A law's walk, with memory that came in. -/
theorem law_callsM {M : Nat → Nat → Canon U} {fuel : Nat} (hs : SumOK C) (hmix : C.P.follows .mixedOrders = true) {f : FuncId} {fn : Func} {c : Code} (hf : C.P.funcs[f]? = some fn) (hb : fn.body = some c) {args : Array Value} {xs : List (AVal U)} {w : World} (hinv : C.inv w)
    (hargs : RelArgs C.E w (fun _ => False) xs args) (hlen : Nat.ble xs.length fn.ntmps = true) {fr : Bool} (h : Done (exec C fn.ntmps M fuel 0 c (initSt xs) (AEnds C fr fn fun r => r = .bool true))) :
    Calls C.P f args w fun e w' => e = .returned (.bool true) ∧ Below w.heap.size w w' := by
  refine (calls_of_exec hs hinv hmix hf hb (fun _ h => h.elim) hargs (Nat.le_of_ble_eq_true hlen) h.out).mono ?_
  rintro e w' ⟨v, rfl, ⟨r, rfl, ⟨ρ, hr, _⟩⟩, hbw⟩
  cases hr
  exact ⟨rfl, hbw⟩
end
end Go.Vm
