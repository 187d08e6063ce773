/-
  One abstract operation is right. Conditions: the summaries of the called functions are right.
-/
import Derived.Test.YtohecfbnmmgimaaVmL
namespace Go.Vm
open Go.RowKit
set_option linter.unusedVariables false

section
variable {U : Univ} {n : Nat} {N : Nat → Prop} {w0 w w' : World} {ρ ρ' : Nat → Option (Nat × Value)} {s : ASt U} {a : Act}


theorem parts_rel {E : Enc U} (h : RR E n N w0 ρ s a w) (parts : Array (Nat × Operand)) : ∀ k (h1 : k < (parts.toList.map fun p => (p.1, s.eval p.2)).length) (h' : k < (parts.map fun (p : Nat × Operand) => (p.1, a.eval p.2)).toList.length),
    (parts.toList.map fun p => (p.1, s.eval p.2))[k].1 = (parts.map fun (p : Nat × Operand) => (p.1, a.eval p.2)).toList[k].1 ∧
      Rel E w ρ (Stab N ρ w) (parts.toList.map fun p => (p.1, s.eval p.2))[k].2 (parts.map fun (p : Nat × Operand) => (p.1, a.eval p.2)).toList[k].2 := by
  intro k h1 h'
  simp only [List.getElem_map, Array.getElem_toList, Array.getElem_map]
  exact ⟨trivial, h.eval _⟩

theorem aop_sound {C : Cfg U} (hs : SumAt C w0) (h : RR C.E n N w0 ρ s a w) {look : Nat → Option (AObj U)} (hlook : ∀ id ob, look id = some ob → s.objs id = some ob) {o : Oper}
    (hfresh : ∀ d, o.dst = some d → look d = none → s.objs d = none) (hd : ∀ d, o.dst = some d → d < n) {cs : List Prop} {r : AVal U} {ob : Option (Nat × AObj U)} (ho : aop C o s.eval look = some (cs, r, ob)) (hc : conj cs)
    {K : Act → World → Prop} {Q : Exit → Act → World → Prop} (hK : ∀ ρ' u w', RR C.E n N w0 ρ' ((s.putObj ob).put o.dst r) (a.put o.dst u) w' → K (a.put o.dst u) w') : o.wp C.P a w K Q := by
  have hstor : ∀ (x : AVal U) v, Rel C.E w ρ (Stab N ρ w) x v → storable look x = true → v.oneCell' = true := fun x v hx hsx => storable_sound h hlook hx hsx
  -- a value, the world as it was
  have same : ∀ {u : Value}, (execOp a.eval o).run C.P w = .ok (.value u) w → Rel C.E w ρ (Stab N ρ w) r u → ob = none → o.wp C.P a w K Q := fun hr hu hob => by
    subst hob
    exact wp_value hr (hK ρ _ w (h.put o.dst hd hu))
  obtain ⟨dst, op, ty, pos, after, guard⟩ := o
  unfold aop at ho
  try simp only at ho
  try simp only at hK
  try simp only at hd
  try simp only at hfresh
  cases op <;> (try simp only at ho) <;> (try (cases ho; done))
  case move x =>
    simp only [val, Option.some.injEq, Prod.mk.injEq] at ho
    obtain ⟨rfl, rfl, rfl⟩ := ho
    exact same rfl (h.eval x) rfl
  case assign x =>
    simp only [val, Option.some.injEq, Prod.mk.injEq] at ho
    obtain ⟨rfl, rfl, rfl⟩ := ho
    exact same rfl (h.eval x) rfl
  case pick c x y =>
    have hcr := h.eval c
    have hxr := h.eval x
    have hyr := h.eval y
    have hrun : ∀ b, a.eval c = .bool b → (execOp a.eval { dst := dst, op := .pick c x y, type := ty, pos := pos, after := after, guard := guard }).run C.P w = .ok (.value (if b then a.eval x else a.eval y)) w := fun b hb => by
      simp [execOp, hb, asBool]
    split at ho
    · rename_i b bx byv hc1 hx1 hy1
      simp only [val, Option.some.injEq, Prod.mk.injEq] at ho
      obtain ⟨rfl, rfl, rfl⟩ := ho
      rw [hc1] at hcr
      rw [hx1] at hxr
      rw [hy1] at hyr
      generalize hce : a.eval c = vc at hcr
      cases hcr
      refine same (hrun _ hce) ?_ rfl
      generalize a.eval x = vx at hxr
      generalize a.eval y = vy at hyr
      cases hxr
      cases hyr
      cases b <;> exact .bool _
    · rename_i b hc1 _
      rw [hc1] at hcr
      generalize hce : a.eval c = vc at hcr
      cases hcr
      cases b
      · simp only [val, Option.some.injEq, Prod.mk.injEq] at ho
        obtain ⟨rfl, rfl, rfl⟩ := ho
        exact same (hrun _ hce) hyr rfl
      · simp only [val, Option.some.injEq, Prod.mk.injEq] at ho
        obtain ⟨rfl, rfl, rfl⟩ := ho
        exact same (hrun _ hce) hxr rfl
    · cases ho
  case alloc t =>
    split at ho
    · rename_i d l hz
      split at ho
      · rename_i hl
        simp only [Option.some.injEq, Prod.mk.injEq] at ho
        obtain ⟨rfl, rfl, rfl⟩ := ho
        obtain ⟨w', ρ', hrun, hR, hp⟩ := alloc_sound h (hfresh d rfl hl) hz
        refine wp_value (u := .pointer (some ⟨w.heap.size, 0, none⟩)) (w' := w') ?_ (hK ρ' _ w' (hR.put (some d) hd (.ptr d 0 _ hp)))
        simp [execOp, hrun]
      · cases ho
    · cases ho
  case box t x =>
    split at ho
    · rename_i d
      split at ho
      · rename_i hl
        have hbb := cond_some ho
        clear ho
        obtain ⟨hb, ho⟩ := hbb
        simp only [Option.some.injEq, Prod.mk.injEq] at ho
        obtain ⟨rfl, rfl, rfl⟩ := ho
        obtain ⟨w', ρ', hrun, hR, hp⟩ := box_sound (P := C.P) h hlook (hfresh d rfl hl) t (h.eval x) hb
        refine wp_value (u := .pointer (some ⟨w.heap.size, 0, none⟩)) (w' := w') ?_ (hK ρ' _ w' (hR.put (some d) hd (.ptr d 0 _ hp)))
        show ((do pure (Next.value (← Instr.box t (a.eval x)))) : Sem Next).run C.P w = _
        simp only [Sem.run_bind, hrun, Result.andThen_ok, Sem.run_pure]
      · cases ho
    · cases ho
  case build t parts =>
    split at ho
    · rename_i pl z hpl hz
      split at ho
      · rename_i l hl
        simp only [val, Option.some.injEq, Prod.mk.injEq] at ho
        obtain ⟨rfl, rfl, rfl⟩ := ho
        obtain ⟨q, hrun, hq⟩ := build_sound (E := C.E) (w := w) (ρ := ρ) hstor hpl hz (parts' := parts.map fun (p : Nat × Operand) => (p.1, a.eval p.2)) (by simp) (parts_rel h parts) hl
        refine same ?_ hq rfl
        show ((do pure (Next.value (← Instr.build t (parts.map fun (p : Nat × Operand) => (p.1, a.eval p.2)))) : Sem Next)).run C.P w = _
        simp only [Sem.run_bind, hrun, Result.andThen_ok, Sem.run_pure]
      · cases ho
    · cases ho
  case buildSlice t len parts =>
    split at ho
    · rename_i d τ hτ
      split at ho
      · rename_i z hl hz
        have hbb := cond_some ho
        clear ho
        obtain ⟨hb, ho⟩ := hbb
        simp only [Bool.and_eq_true] at hb
        split at ho
        · rename_i l hfl
          split at ho
          · rename_i xs hxs
            simp only [Option.some.injEq, Prod.mk.injEq] at ho
            obtain ⟨rfl, rfl, rfl⟩ := ho
            obtain ⟨q, w', ρ', hrun, hR, hq⟩ := buildSlice_sound h hlook (hfresh d rfl hl) hτ hz (Nat.eq_of_beq_eq_true hb.1) (Nat.le_of_ble_eq_true hb.2) (parts' := parts.map fun (p : Nat × Operand) => (p.1, a.eval p.2)) (by simp) (parts_rel h parts) hfl hxs
            refine wp_value (u := q) (w' := w') ?_ (hK ρ' _ w' (hR.put (some d) hd hq))
            show ((do pure (Next.value (← Instr.buildSlice t len (parts.map fun (p : Nat × Operand) => (p.1, a.eval p.2)))) : Sem Next)).run C.P w = _
            simp only [Sem.run_bind, hrun, Result.andThen_ok, Sem.run_pure]
          · cases ho
        · cases ho
      · cases ho
    · cases ho
  case load t p =>
    split at ho
    · rename_i l off hb
      obtain ⟨b, o', f, hv, hat⟩ := behind_sound h hlook (h.eval p) hb
      unfold val? at ho
      split at ho
      · rename_i x hx
        simp only [Option.some.injEq, Prod.mk.injEq] at ho
        obtain ⟨rfl, rfl, rfl⟩ := ho
        obtain ⟨u, hrun, hu⟩ := loadVar_sound hx hat
        refine same ?_ hu rfl
        simp only [execOp, hv, Instr.loadAt, Instr.sureAddr, Sem.run_bind, Sem.run_pure, Result.andThen_ok, hrun]
      · cases ho
    · cases ho
  case store t p x =>
    split at ho
    · rename_i m hm
      have hbb := cond_some ho
      clear ho
      obtain ⟨hb, ho⟩ := hbb
      split at ho
      · rename_i ob' hob
        simp only [Option.some.injEq, Prod.mk.injEq] at ho
        obtain ⟨rfl, rfl, rfl⟩ := ho
        obtain ⟨id, obj⟩ := ob'
        obtain ⟨w', ρ', hrun, hR⟩ := storeAt_sound (P := C.P) h hlook (h.eval p) (h.eval x) hob hm (Nat.eq_of_beq_eq_true hb)
        refine wp_skip' (w' := w') ?_ (hK ρ' _ w' (hR.put dst hd (.raw _)))
        simp [execOp, hrun]
      · cases ho
    · cases ho
  case binOp op xt x y yt =>
    split at ho
    · rename_i cs' r' hab
      simp only [Option.some.injEq, Prod.mk.injEq] at ho
      obtain ⟨rfl, rfl, rfl⟩ := ho
      obtain ⟨q, hrun, hq⟩ := abinAt_sound (C := C) (t := xt) (X := x) (Y := y) (h.eval x) (h.eval y) hab hc
      refine same ?_ hq rfl
      simp only [execOp, Sem.run_bind] at hrun ⊢
      rw [hrun]
      rfl
    · cases ho
  case unOp op xt x =>
    unfold val? at ho
    split at ho
    · rename_i r' hab
      simp only [Option.some.injEq, Prod.mk.injEq] at ho
      obtain ⟨rfl, rfl, rfl⟩ := ho
      obtain ⟨q, hrun, hq⟩ := aun_sound (P := C.P) (h.eval x) hab
      refine same ?_ hq rfl
      simp [execOp, hrun]
    · cases ho
  case fieldAddr t x f =>
    split at ho
    · rename_i fo hfo
      obtain ⟨q, hrun, hq, hob⟩ := fieldAddr_sound (P := C.P) (look := look) hfo (h.eval x) ho (fun id g i off sz hst => by
        unfold storable at hst
        simp only at hst
        split at hst
        · rename_i t' g' xs hl
          obtain rfl := Nat.eq_of_beq_eq_true hst
          obtain ⟨u, _, h1, _⟩ := h.objs _ _ (hlook _ _ hl)
          exact ⟨u, h1⟩
        · cases hst)
      refine same ?_ hq hob
      simp [execOp, hrun]
    · cases ho
  case field t x f =>
    split at ho
    · rename_i fields hu
      split at ho
      · rename_i fl l hfl hl
        unfold val? at ho
        split at ho
        · rename_i y hy
          simp only [Option.some.injEq, Prod.mk.injEq] at ho
          obtain ⟨rfl, rfl, rfl⟩ := ho
          have hx := h.eval x
          rw [hl] at hx
          generalize hve : a.eval x = vx at hx
          cases hx with
          | agg _ vs hn hr =>
            obtain ⟨q, hrun, hq⟩ := part_sound (w := w) hy hn hr
            refine same ?_ hq rfl
            simp [execOp, hve, Instr.field, run_underlying hu, hfl, asAgg, hrun]
        · cases ho
      · cases ho
    · cases ho
  case indexAddr t x ix =>
    split at ho
    · rename_i k i hix
      have hi := h.eval ix
      rw [hix] at hi
      generalize hve : a.eval ix = vi at hi
      cases hi
      obtain ⟨hob, q, hrun, hq⟩ := indexAddr_sound (k := k) h hlook (h.eval x) ho hc
      refine same ?_ hq hob
      simp [execOp, hve, hrun]
    · cases ho
  case index t x ix =>
    split at ho
    · rename_i k i hix
      have hi := h.eval ix
      rw [hix] at hi
      generalize hve : a.eval ix = vi at hi
      cases hi
      obtain ⟨hob, q, hrun, hq⟩ := index_sound (k := k) (h.eval x) ho hc
      refine same ?_ hq hob
      simp [execOp, hve, hrun]
    · cases ho
  case slice t x lo hi mx =>
    cases mx with
    | some m => cases ho
    | none =>
      have ho' : sliceOf C t (s.eval x) (lo.map s.eval) (hi.map s.eval) = some (cs, r, ob) := by
        cases lo <;> cases hi <;> exact ho
      obtain ⟨hob, q, hrun, hq⟩ := slice_sound (lo' := lo.map a.eval) (hi' := hi.map a.eval) (h.eval x)
        (fun y hy => by
          obtain ⟨z, hz, rfl⟩ := Option.map_eq_some_iff.1 hy
          exact ⟨a.eval z, by rw [hz]; rfl, h.eval z⟩) (fun e => by
          cases lo with
          | none => rfl
          | some q => cases e)
        (fun y hy => by
          obtain ⟨z, hz, rfl⟩ := Option.map_eq_some_iff.1 hy
          exact ⟨a.eval z, by rw [hz]; rfl, h.eval z⟩) (fun e => by
          cases hi with
          | none => rfl
          | some q => cases e) ho' hc
      refine same ?_ hq hob
      simp [execOp, hrun]
  case extract t i =>
    split at ho
    · rename_i l hl
      unfold val? at ho
      split at ho
      · rename_i y hy
        simp only [Option.some.injEq, Prod.mk.injEq] at ho
        obtain ⟨rfl, rfl, rfl⟩ := ho
        have hx := h.eval t
        rw [hl] at hx
        generalize hve : a.eval t = vx at hx
        cases hx with
        | tup _ vs hn hr =>
          have hlt : i < l.length := (List.getElem?_eq_some_iff.1 hy).1
          have hyy := (List.getElem?_eq_some_iff.1 hy).2
          have := hr i hlt
          rw [hyy] at this
          refine same (u := vs.getD i undef) ?_ this rfl
          have h2 : i < vs.size := by omega
          simp [execOp, hve, Instr.extract, h2]
      · cases ho
    · cases ho
  case call c =>
    obtain ⟨callee, args, argTypes⟩ := c
    simp only at ho
    split at ho
    · -- len
      split at ho
      · rename_i x t hargs hts
        split at ho
        · rename_i m hm
          simp only [val, Option.some.injEq, Prod.mk.injEq] at ho
          obtain ⟨rfl, rfl, rfl⟩ := ho
          have hargs' : args = #[x] := by rw [← Array.toArray_toList (xs := args), hargs]
          have hts' : argTypes = #[t] := by rw [← Array.toArray_toList (xs := argTypes), hts]
          subst hargs'
          subst hts'
          have hx := h.eval x
          have hrun : (Builtin.len_ #[t] ty #[a.eval x]).run C.P w = .ok (.int .i64 m) w := by
            unfold alen at hm
            split at hm
            · rename_i b hu hxe
              rw [hxe] at hx
              generalize a.eval x = vx at hx
              cases hx
              obtain rfl := Option.some.inj hm
              simp [Builtin.len_, run_underlying hu, goInt]
            · rename_i e τ xs hu hxe
              rw [hxe] at hx
              generalize a.eval x = vx at hx
              obtain rfl := Option.some.inj hm
              cases hx
              · simp [Builtin.len_, run_underlying hu, goInt]
              · simp [Builtin.len_, run_underlying hu, goInt]
            · rename_i e hu hxe
              rw [hxe] at hx
              generalize a.eval x = vx at hx
              obtain rfl := Option.some.inj hm
              cases hx
              simp [Builtin.len_, run_underlying hu, goInt]
            · rename_i e id g hu hxe
              split at hm
              · rename_i τ g' xs hl
                have hbb := cond_some hm
                clear hm
                obtain ⟨hb, hm⟩ := hbb
                obtain rfl := Option.some.inj hm
                obtain rfl := Nat.eq_of_beq_eq_true hb
                rw [hxe] at hx
                obtain ⟨u, cs', h1, hp, h2, h3⟩ := h.objs _ _ (hlook _ _ hl)
                generalize a.eval x = vx at hx
                cases hx with
                | osl _ _ u' hr' hp' =>
                  rw [h1] at hr'
                  simp only [Option.some.injEq, Prod.mk.injEq, true_and] at hr'
                  subst hr'
                  rcases h2.2 with ⟨rfl, h0⟩ | ⟨gb, cap, cur, rfl, _⟩
                  · simp [Builtin.len_, run_underlying hu, goInt, h0]
                  · simp [Builtin.len_, run_underlying hu, goInt]
                | oslOld _ _ g' u' v hr' hg =>
                  rw [h1] at hr'
                  simp only [Option.some.injEq, Prod.mk.injEq] at hr'
                  omega
              · cases hm
            · rename_i k e hu
              obtain rfl := Option.some.inj hm
              simp [Builtin.len_, run_underlying hu, goInt]
            · cases hm
          refine same ?_ (.int _ _) rfl
          simp [execOp, resolve, invoke, builtin, hrun]
        · cases ho
      · cases ho
    · -- min
      unfold val? at ho
      split at ho
      · rename_i y hy
        simp only [Option.some.injEq, Prod.mk.injEq] at ho
        obtain ⟨rfl, rfl, rfl⟩ := ho
        unfold minI at hy
        split at hy
        · rename_i k x k' y' hl
          split at hy
          · rename_i hk
            subst hk
            obtain rfl := Option.some.inj hy
            obtain ⟨p, q, hpq⟩ : ∃ p q, args.toList = [p, q] := by
              match hq : args.toList with
              | [p, q] => exact ⟨p, q, rfl⟩
              | [] => rw [hq] at hl; simp at hl
              | [_] => rw [hq] at hl; simp at hl
              | _ :: _ :: _ :: _ => rw [hq] at hl; simp at hl
            have hargs' : args = #[p, q] := by rw [← Array.toArray_toList (xs := args), hpq]
            subst hargs'
            simp only [List.map_cons, List.map_nil, List.cons.injEq, and_true] at hl
            have hp := h.eval p
            have hq := h.eval q
            rw [hl.1] at hp
            rw [hl.2] at hq
            generalize hpe : a.eval p = vp at hp
            generalize hqe : a.eval q = vq at hq
            cases hp
            cases hq
            refine same (u := .int k (if y' < x then y' else x)) ?_ (.int _ _) rfl
            simp [execOp, resolve, invoke, builtin, Builtin.min_, Builtin.min2, hpe, hqe]
          · cases hy
        · cases hy
      · cases ho
    · -- max
      unfold val? at ho
      split at ho
      · rename_i y hy
        simp only [Option.some.injEq, Prod.mk.injEq] at ho
        obtain ⟨rfl, rfl, rfl⟩ := ho
        unfold maxI at hy
        split at hy
        · rename_i k x k' y' hl
          split at hy
          · rename_i hk
            subst hk
            obtain rfl := Option.some.inj hy
            obtain ⟨p, q, hpq⟩ : ∃ p q, args.toList = [p, q] := by
              match hq : args.toList with
              | [p, q] => exact ⟨p, q, rfl⟩
              | [] => rw [hq] at hl; simp at hl
              | [_] => rw [hq] at hl; simp at hl
              | _ :: _ :: _ :: _ => rw [hq] at hl; simp at hl
            have hargs' : args = #[p, q] := by rw [← Array.toArray_toList (xs := args), hpq]
            subst hargs'
            simp only [List.map_cons, List.map_nil, List.cons.injEq, and_true] at hl
            have hp := h.eval p
            have hq := h.eval q
            rw [hl.1] at hp
            rw [hl.2] at hq
            generalize hpe : a.eval p = vp at hp
            generalize hqe : a.eval q = vq at hq
            cases hp
            cases hq
            refine same (u := .int k (if x < y' then y' else x)) ?_ (.int _ _) rfl
            simp [execOp, resolve, invoke, builtin, Builtin.max_, Builtin.max2, hpe, hqe]
          · cases hy
        · cases hy
      · cases ho
    · -- append
      split at ho
      · rename_i d x y hargs
        have hargs' : args = #[x, y] := by rw [← Array.toArray_toList (xs := args), hargs]
        subst hargs'
        obtain ⟨q, w', ρ', hrun, hR, hq⟩ := aappend_sound (ty := ty) h hlook (hfresh d rfl) (h.eval x) (h.eval y) ho hc
        refine wp_value (u := q) (w' := w') ?_ (hK ρ' _ w' (hR.put (some d) hd hq))
        simp [execOp, resolve, invoke, builtin, hrun]
      · cases ho
    · -- a function
      rename_i f
      have hargsz : (args.map a.eval).size = (args.toList.map s.eval).length := by simp
      obtain ⟨rfl, hcall, hcalls⟩ := callOf_sound hs h hlook (args := args.map a.eval) hargsz (fun k hk => by
        have hk' : k < args.size := by simpa using hk
        have e : (args.map a.eval).getD k undef = a.eval args[k] := by simp [hk']
        rw [e]
        simp only [List.getElem_map, Array.getElem_toList]
        exact h.eval _) ho hc
      refine wp_enter (f := f) (args := args.map a.eval) ?_ (hcalls.mono ?_)
      · have e : args.map a.eval ++ #[] = args.map a.eval := by simp
        simp [execOp, resolve, Deferred.ofValue, Act.eval, invoke, hcall]
      · rintro e w' ⟨v, rfl, hR, hv⟩
        exact ⟨v, rfl, hK ρ v w' (hR.put dst hd hv)⟩
    · cases ho
end
end Go.Vm
