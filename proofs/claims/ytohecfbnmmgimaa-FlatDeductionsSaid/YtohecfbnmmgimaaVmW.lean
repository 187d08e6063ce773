/-
  The interpreter of code, and what it says of a call. Conditions: the summaries of the called functions are right; the program allows every order.
-/
import Derived.Test.YtohecfbnmmgimaaVmV
import Derived.LoopN
namespace Go.Vm
open Go.RowKit
set_option linter.unusedVariables false

inductive AEx where
  | normal
  | exit (id : Nat)
  | ret

def AEx.to : AEx → Exit
  | .normal => .normal
  | .exit id => .exit id
  | .ret => .ret

section
variable {U : Univ}

/-- Rounds of a loop. -/
def iter (B : ASt U → (AEx → ASt U → Prop) → Prop) (m : Canon U) : Nat → ASt U → (AEx → ASt U → Prop) → Prop
  | 0, _, _ => False
  | f + 1, s, K => B s fun e s' => match e with
    | .normal => match canon m s' with
      | some s'' => iter B m f s'' K
      | none => False
    | e => match canon m s' with
      | some s'' => K e s''
      | none => False

/-- What a test has shown of a temporary. -/
def ASt.know (s : ASt U) (c : Operand) (b : Bool) : ASt U :=
  match c with
  | .tmp t => s.set t (.bool b)
  | _ => s

theorem ASt.know_eq {s : ASt U} {c : Operand} {b : Bool} (h : s.eval c = .bool b) : s.know c b = s := by
  unfold ASt.know
  split
  · rename_i t
    have hb : s.tmps t = .bool b := h
    have : (s.set t (.bool b)).tmps = s.tmps := funext fun u => by
      show cond (Nat.beq u t) (.bool b) (s.tmps u) = s.tmps u
      by_cases ht : u = t
      · subst ht
        rw [Nat.beq_refl]
        exact hb.symm
      · rw [nbeq ht]
        rfl
    exact congrArg (ASt.mk · s.objs) this
  · rfl

/-- The code, run abstractly: what must hold for K to hold at the end. -/
def exec (C : Cfg U) (n : Nat) (M : Nat → Canon U) (fuel : Nat) : Nat → Code → ASt U → (AEx → ASt U → Prop) → Prop
  | _, .skip, s, K => K .normal s
  | _, .region _ ops false, s, K => match crun C n ops (ops.toList.length + 1) [] ops.toList s with
    | some (cs, s') => both cs (K .normal s')
    | none => False
  | _, .region _ ops true, s, K => xdraw C n ops ops.toList [] s fun es s' => cond (chkAll ops.toList [] es) (K .normal s') False
  | cur, .seq x y, s, K => exec C n M fuel cur x s fun e s' => match e with
    | .normal => exec C n M fuel cur y s' K
    | e => K e s'
  | cur, .cond c x y, s, K => match s.eval c with
    | .bool b => match b with
      | true => exec C n M fuel cur x (s.know c true) K
      | false => exec C n M fuel cur y (s.know c false) K
    | _ => False
  | _, .block id c, s, K => exec C n M fuel id c s fun e s' => match e with
    | .exit id' => cond (Nat.beq id' id) (K .normal s') (K (.exit id') s')
    | e => K e s'
  | cur, .loop c, s, K => match canon (M cur) s with
    | some s' => iter (exec C n M fuel cur c) (M cur) fuel s' K
    | none => False
  | _, .exit id, s, K => K (.exit id) s
  | _, .ret, s, K => K .ret s
  | _, _, _, _ => False

variable {n : Nat} {N : Nat → Prop} {w0 w w' : World} {ρ ρ' : Nat → Option (Nat × Value)} {s s' : ASt U} {a : Act} {C : Cfg U} {M : Nat → Canon U} {fuel : Nat}

theorem iter_sound {B : ASt U → (AEx → ASt U → Prop) → Prop} {c : Code} {m : Canon U}
    (hB : ∀ (s : ASt U) (K : AEx → ASt U → Prop) (ρ : Nat → Option (Nat × Value)) (a : Act) (w : World) (Q : Exit → Act → World → Prop), B s K → RR C.E n N w0 ρ s a w → (∀ e s' ρ' a' w', K e s' → RR C.E n N w0 ρ' s' a' w' → Q e.to a' w') → c.wp C.P Q a w) :
    ∀ (f : Nat) (s : ASt U) (K : AEx → ASt U → Prop) (ρ : Nat → Option (Nat × Value)) (a : Act) (w : World) (Q : Exit → Act → World → Prop), iter B m f s K → RR C.E n N w0 ρ s a w → (∀ e s' ρ' a' w', K e s' → RR C.E n N w0 ρ' s' a' w' → Q e.to a' w') → Code.rounds C.P c Q f a w := by
  intro f
  induction f with
  | zero => intro s K ρ a w Q h; exact h.elim
  | succ f ih =>
    intro s K ρ a w Q h hR hQ
    rw [rounds_succ]
    refine hB s _ ρ a w _ h hR (fun e s' ρ' a' w' hK hR' => ?_)
    cases e with
    | normal =>
      simp only at hK
      split at hK
      · rename_i s'' hc
        obtain ⟨ρ'', hR''⟩ := canon_sound hR' hc
        exact ih s'' K ρ'' a' w' Q hK hR'' hQ
      · exact hK.elim
    | exit id =>
      simp only at hK
      split at hK
      · rename_i s'' hc
        obtain ⟨ρ'', hR''⟩ := canon_sound hR' hc
        exact hQ _ _ _ _ _ hK hR''
      · exact hK.elim
    | ret =>
      simp only at hK
      split at hK
      · rename_i s'' hc
        obtain ⟨ρ'', hR''⟩ := canon_sound hR' hc
        exact hQ _ _ _ _ _ hK hR''
      · exact hK.elim

theorem exec_sound (hs : SumAt C w0) (hmix : C.P.follows .mixedOrders = true) : ∀ (c : Code) (cur : Nat) (s : ASt U) (K : AEx → ASt U → Prop) (ρ : Nat → Option (Nat × Value)) (a : Act) (w : World) (Q : Exit → Act → World → Prop),
    exec C n M fuel cur c s K → RR C.E n N w0 ρ s a w → (∀ e s' ρ' a' w', K e s' → RR C.E n N w0 ρ' s' a' w' → Q e.to a' w') → c.wp C.P Q a w := by
  intro c
  induction c with
  | skip =>
    intro cur s K ρ a w Q h hR hQ
    exact wp_skip (hQ .normal s ρ a w h hR)
  | region id ops draw =>
    intro cur s K ρ a w Q h hR hQ
    cases draw with
    | false =>
      simp only [exec] at h
      split at h
      · rename_i cs s' hrun
        obtain ⟨hc, hk⟩ := both_spec h
        exact wp_region (wpOps_of_wpl (crun_sound hs _ _ _ _ _ _ hrun hc ρ a w hR _ (fun ρ' a' w' hR' => hQ .normal s' ρ' a' w' hk hR')))
      · exact h.elim
    | true =>
      simp only [exec] at h
      refine draw_sound hs hmix hR (K := fun s' => K .normal s') (cast ?_ h) (fun s' ρ' a' w' hk hR' => hQ .normal s' ρ' a' w' hk hR')
      congr 1
      funext es s'
      cases chkAll ops.toList [] es <;> simp
  | seq x y ihx ihy =>
    intro cur s K ρ a w Q h hR hQ
    simp only [exec] at h
    refine wp_seq (ihx cur s _ ρ a w _ h hR (fun e s' ρ' a' w' hK hR' => ?_))
    cases e with
    | normal => exact ihy cur s' K ρ' a' w' Q hK hR' hQ
    | exit id => exact hQ _ _ _ _ _ hK hR'
    | ret => exact hQ _ _ _ _ _ hK hR'
  | cond c x y ihx ihy =>
    intro cur s K ρ a w Q h hR hQ
    simp only [exec] at h
    split at h
    · rename_i b hb
      have hc := hR.eval c
      rw [hb] at hc
      refine wp_cond (bool_of_rel hc) ?_
      cases b with
      | true =>
        simp only [ASt.know_eq hb] at h
        exact ihx cur s K ρ a w Q h hR hQ
      | false =>
        simp only [ASt.know_eq hb] at h
        exact ihy cur s K ρ a w Q h hR hQ
    · exact h.elim
  | block id c ih =>
    intro cur s K ρ a w Q h hR hQ
    simp only [exec] at h
    refine wp_block (ih id s _ ρ a w _ h hR (fun e s' ρ' a' w' hK hR' => ?_))
    cases e with
    | normal => exact hQ .normal _ _ _ _ hK hR'
    | exit id' =>
      simp only [cond_beq] at hK
      show Exit.inBlock id Q (.exit id') a' w'
      simp only [Exit.inBlock]
      split
      · rename_i hi
        rw [if_pos hi] at hK
        exact hQ .normal _ _ _ _ hK hR'
      · rename_i hi
        rw [if_neg hi] at hK
        exact hQ (.exit id') _ _ _ _ hK hR'
    | ret => exact hQ .ret _ _ _ _ hK hR'
  | loop c ih =>
    intro cur s K ρ a w Q h hR hQ
    simp only [exec] at h
    split at h
    · rename_i s' hc
      obtain ⟨ρ', hR'⟩ := canon_sound hR hc
      exact wp_loop_rounds fuel (iter_sound (fun s K ρ a w Q h hR hQ => ih cur s K ρ a w Q h hR hQ) fuel s' K ρ' a w Q h hR' hQ)
    · exact h.elim
  | exit id =>
    intro cur s K ρ a w Q h hR hQ
    exact wp_exit (hQ (.exit id) s ρ a w h hR)
  | ret =>
    intro cur s K ρ a w Q h hR hQ
    exact wp_ret (hQ .ret s ρ a w h hR)
  | _ =>
    intro cur s K ρ a w Q h hR hQ
    exact h.elim

/-! ### Functions -/

/-- The types of the cells of a value of type t. -/
def leafTys (P : Program) : Nat → TypeId → List TypeId
  | 0, t => [t]
  | d + 1, t => match P.underlying t with
    | some (.struct fields) => fields.toList.flatMap fun f => leafTys P d f.type
    | some (.array m e) => (List.replicate m (leafTys P d e)).flatten
    | _ => [t]

/-- A result, by content. -/
def resContent (C : Cfg U) (look : Nat → Option (AObj U)) (t : TypeId) : AVal U → Option (AVal U)
  | .agg l => match argsOf C look (leafTys C.P 20 t) l with
    | some (ys, _) => some (.agg ys)
    | none => none
  | x => match byContent C look t x with
    | some (y, _) => some y
    | none => none

def resOne (C : Cfg U) (s : ASt U) (t : TypeId) : ResultVar → Option (AVal U)
  | .tmp x => resContent C s.objs t (s.tmps x)
  | .cell x t' => match behind C.E s.objs (s.tmps x) with
    | some (l, off) => match partOf C.P t' l off with
      | some v => resContent C s.objs t v
      | none => none
    | none => none

def resAll (C : Cfg U) (s : ASt U) : List TypeId → List ResultVar → Option (List (AVal U))
  | [], [] => some []
  | t :: ts, r :: rs => match resOne C s t r, resAll C s ts rs with
    | some x, some xs => some (x :: xs)
    | _, _ => none
  | _, _ => none

def result (C : Cfg U) (fn : Func) (s : ASt U) : Option (AVal U) :=
  match resAll C s fn.resultTypes.toList fn.results.toList with
  | some [x] => some x
  | some l => some (.tup l)
  | none => none

def initSt (xs : List (AVal U)) : ASt U := ⟨fun t => xs.getD t (.raw undef), fun _ => none⟩

/-- At the end of a function: the result is of a kind. -/
def AEnds (C : Cfg U) (fn : Func) (Post : AVal U → Prop) (e : AEx) (s : ASt U) : Prop :=
  match e with
  | .exit _ => False
  | _ => match result C fn s with
    | some r => Post r
    | none => False

theorem resContent_sound (hR : RR C.E n N w0 ρ s a w) {t : TypeId} {x y : AVal U} {v : Value} (hx : Rel C.E w ρ (Stab N ρ w) x v) (h : resContent C s.objs t x = some y) : Rel C.E w noOwn (Out' N w) y v := by
  unfold resContent at h
  split at h
  · rename_i l
    split at h
    · rename_i ys own hys
      obtain rfl := Option.some.inj h
      cases hx with
      | agg _ vs hn hl =>
        obtain ⟨h1, h2, _⟩ := argsOf_sound hR (fun _ _ h => h) _ l ys own vs.toList (by simpa using hn) (fun k hk => by rw [getD_toList]; exact hl k hk) hys
        exact .agg ys vs (by rw [hn, h1]) (fun k hk => by have := h2 k hk; rw [getD_toList] at this; exact this)
    · cases h
  · split at h
    · rename_i y' own hb
      obtain rfl := Option.some.inj h
      exact (byContent_sound hR (fun _ _ h => h) hx hb).1
    · cases h

theorem resOne_sound (hR : RR C.E n N w0 ρ s a w) {t : TypeId} {r : ResultVar} {y : AVal U} (h : resOne C s t r = some y) :
    ∃ v, (match r with
      | .tmp t => pure (a.tmps.getD t undef)
      | .cell x t => do loadVar t (← asAddr (a.tmps.getD x undef)) : Sem Value).run C.P w = .ok v w ∧ Rel C.E w noOwn (Out' N w) y v := by
  unfold resOne at h
  split at h
  · rename_i x
    exact ⟨_, rfl, resContent_sound hR (hR.tmps x) h⟩
  · rename_i x t'
    split at h
    · rename_i l off hb
      split at h
      · rename_i v hv
        obtain ⟨b, o, f, hp, hat⟩ := behind_sound hR (fun _ _ h => h) (hR.tmps x) hb
        obtain ⟨u, hrun, hu⟩ := loadVar_sound (P := C.P) hv hat
        refine ⟨u, ?_, resContent_sound hR hu h⟩
        rw [hp]
        simp only [asAddr, Sem.run_bind, Sem.run_pure, Result.andThen_ok, hrun]
      · cases h
    · cases h

theorem resAll_sound (hR : RR C.E n N w0 ρ s a w) : ∀ (rs : List ResultVar) (ts : List TypeId) (ys : List (AVal U)), resAll C s ts rs = some ys →
    ∃ vs, (rs.mapM (fun
      | .tmp t => pure (a.tmps.getD t undef)
      | .cell x t => do loadVar t (← asAddr (a.tmps.getD x undef))) : Sem (List Value)).run C.P w = .ok vs w ∧ vs.length = ys.length ∧ ∀ k (h : k < ys.length), Rel C.E w noOwn (Out' N w) ys[k] (vs.getD k undef) := by
  intro rs
  induction rs with
  | nil =>
    intro ts ys h
    cases ts with
    | nil =>
      simp only [resAll, Option.some.injEq] at h
      subst h
      exact ⟨[], rfl, rfl, fun k hk => absurd hk (by simp)⟩
    | cons t ts => cases h
  | cons r rs ih =>
    intro ts ys h
    cases ts with
    | nil => cases h
    | cons t ts =>
      simp only [resAll] at h
      split at h
      · rename_i x xs hx hxs
        obtain rfl := Option.some.inj h
        obtain ⟨v, h1, h2⟩ := resOne_sound hR hx
        obtain ⟨vs, h3, h4, h5⟩ := ih ts xs hxs
        refine ⟨v :: vs, ?_, by simp [h4], fun k hk => ?_⟩
        · simp only [List.mapM_cons, Sem.run_bind]
          rw [h1]
          simp only [Result.andThen_ok]
          rw [h3]
          rfl
        · cases k with
          | zero => exact h2
          | succ k => exact h5 k (by simpa using hk)
      · cases h

theorem result_sound (hR : RR C.E n N w0 ρ s a w) {fn : Func} {y : AVal U} (h : result C fn s = some y) : ∃ v, (results fn a.tmps).run C.P w = .ok v w ∧ Rel C.E w noOwn (Out' N w) y v := by
  unfold result at h
  have main : ∀ l, resAll C s fn.resultTypes.toList fn.results.toList = some l → ∃ vs : List Value, (fn.results.mapM (fun
      | .tmp t => pure (a.tmps.getD t undef)
      | .cell x t => do loadVar t (← asAddr (a.tmps.getD x undef))) : Sem (Array Value)).run C.P w = .ok vs.toArray w ∧ vs.length = l.length ∧ ∀ k (h : k < l.length), Rel C.E w noOwn (Out' N w) l[k] (vs.getD k undef) := fun l hl => by
    obtain ⟨vs, h1, h2, h3⟩ := resAll_sound hR _ _ l hl
    refine ⟨vs, ?_, h2, h3⟩
    rw [Array.mapM_eq_mapM_toList]
    simp only [Sem.run_map]
    rw [h1]
    rfl
  split at h
  · rename_i x hx
    obtain rfl := Option.some.inj h
    obtain ⟨vs, h1, h2, h3⟩ := main _ hx
    match vs, h2 with
    | [v], _ =>
      refine ⟨v, ?_, h3 0 (by simp)⟩
      simp only [results, Sem.run_bind]
      exact Eq.trans (congrArg (fun r : Result (Array Value) => r.andThen _) h1) rfl
  · rename_i l hne hl
    obtain rfl := Option.some.inj h
    obtain ⟨vs, h1, h2, h3⟩ := main _ hl
    refine ⟨.tuple vs.toArray, ?_, .tup l vs.toArray (by simpa using h2) (fun k hk => by simpa using h3 k hk)⟩
    have hn : ¬ vs.toArray.size = 1 := fun e => by
      have hl1 : l.length = 1 := by rw [← h2]; simpa using e
      match l, hl1 with
      | [x], _ => exact hne x rfl
    simp only [results, Sem.run_bind]
    refine Eq.trans (congrArg (fun r : Result (Array Value) => r.andThen _) h1) ?_
    simp only [Result.andThen_ok, dif_neg hn]
    rfl
  · cases h

/-- What the interpreter says of a call. -/
theorem calls_of_exec (hs : SumOK C) (hinv : C.inv w) (hmix : C.P.follows .mixedOrders = true) {f : FuncId} {fn : Func} {c : Code} (hf : C.P.funcs[f]? = some fn) (hb : fn.body = some c) {args : Array Value} {xs : List (AVal U)} (hN : ∀ b, N b → b < w.heap.size)
    (hargs : RelArgs C.E w N xs args) (hlen : xs.length ≤ fn.ntmps) {Post : AVal U → Prop} (h : exec C fn.ntmps M fuel 0 c (initSt xs) (AEnds C fn Post)) :
    Calls C.P f args w fun e w' => ∃ v, e = .returned v ∧ (∃ r, Post r ∧ Rel C.E w' noOwn (Out' N w') r v) ∧ Below w.heap.size w w' := by
  refine calls_of_wp hf hb ?_
  have hsz : args.size = xs.length := hargs.1
  have hR : RR C.E fn.ntmps N w noOwn (initSt xs) { tmps := args ++ Array.replicate (fn.ntmps - args.size) undef, defers := [] } w := by
    refine ⟨rfl, by simp; omega, fun t => ?_, (fun id ob ho => by cases ho), (fun id g u hr => by cases hr), (fun _ _ _ _ _ _ _ hr => by cases hr), Below.refl _ _, hN⟩
    show Rel C.E w noOwn _ (xs.getD t (.raw undef)) _
    by_cases ht : t < xs.length
    · have h1 := hargs.2 t ht
      have e1 : xs.getD t (.raw undef) = xs[t] := by simp [ht]
      have e2 : (args ++ Array.replicate (fn.ntmps - args.size) undef).getD t undef = args.getD t undef := by
        have : t < args.size := by omega
        simp [Array.getElem?_append, this]
      rw [e1, e2]
      exact h1.mono (fun b hb => ⟨⟨hb.1, hb.2, fun _ _ _ hr => by cases hr⟩, rfl⟩) (fun _ _ _ hr => by cases hr)
    · have e1 : xs.getD t (.raw undef) = .raw undef := by
        have : xs.length ≤ t := by omega
        simp [this]
      have e2 : (args ++ Array.replicate (fn.ntmps - args.size) undef).getD t undef = undef := by
        have h2 : ¬ t < args.size := by omega
        simp only [Array.getD_eq_getD_getElem?, Array.getElem?_append, if_neg h2]
        by_cases h3 : t - args.size < fn.ntmps - args.size
        · simp [h3]
        · simp [h3]
      rw [e1, e2]
      exact .raw _
  refine exec_sound (hs.at hinv) hmix c 0 _ _ noOwn _ w _ h hR (fun e s' ρ' a' w' hK hR' => ?_)
  have fin : (match result C fn s' with
    | some r => Post r
    | none => False) → a'.defers = [] ∧ ∃ v, (results fn a'.tmps).run C.P w' = .ok v w' ∧ ∃ v_1, Ending.returned v = .returned v_1 ∧ (∃ r, Post r ∧ Rel C.E w' noOwn (Out' N w') r v_1) ∧ Below w.heap.size w w' := fun hK => by
    split at hK
    · rename_i r hr
      obtain ⟨v, h1, h2⟩ := result_sound hR' hr
      exact ⟨hR'.defers, v, h1, v, rfl, ⟨r, hK, h2⟩, hR'.below⟩
    · exact hK.elim
  cases e with
  | normal => exact fin hK
  | exit id => exact hK.elim
  | ret => exact fin hK
end
end Go.Vm
