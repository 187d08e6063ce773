/-
  The abstract operations are right: the step. Conditions: the summaries of the called functions are right.
-/
import Derived.Test.YtohecfbnmmgimaaVmI
import Derived.ChangeKeysEq
namespace Go.Vm
open Go.RowKit
set_option linter.unusedVariables false

section
variable {U : Univ} {n : Nat} {N : Nat → Prop} {w0 w w' : World} {ρ ρ' : Nat → Option (Nat × Value)} {s : ASt U} {a : Act}

theorem wp_value {P : Program} {o : Oper} {K : Act → World → Prop} {Q : Exit → Act → World → Prop} {u : Value} (hr : (execOp a.eval o).run P w = .ok (.value u) w') (hk : K (a.put o.dst u) w') : o.wp P a w K Q := by
  unfold Oper.wp
  rw [hr]
  exact hk

theorem wp_skip' {P : Program} {o : Oper} {K : Act → World → Prop} {Q : Exit → Act → World → Prop} (hr : (execOp a.eval o).run P w = .ok .skip w') (hk : K (a.put o.dst undef) w') : o.wp P a w K Q := by
  unfold Oper.wp
  rw [hr]
  exact hk

theorem wp_enter {P : Program} {o : Oper} {K : Act → World → Prop} {Q : Exit → Act → World → Prop} {f : FuncId} {args : Array Value} (hr : (execOp a.eval o).run P w = .ok (.enter f args) w)
    (hk : Calls P f args w fun e w' => ∃ v, e = .returned v ∧ K (a.put o.dst v) w') : o.wp P a w K Q := by
  unfold Oper.wp
  rw [hr]
  exact hk.mono fun e w' ⟨v, he, hv⟩ => by subst he; exact hv

theorem abin_sound {P : Program} {op : BinOp} {t : TypeId} {x y : AVal U} {u v : Value} {X Y : Operand} {E : Enc U} {st : Nat → Prop} (hx : Rel E w ρ st x u) (hy : Rel E w ρ st y v)
    {cs : List Prop} {r : AVal U} (ho : abin op x y = some (cs, r)) (hc : conj cs) :
    ∃ q, (do eqGuard op t X Y u v; binOp op t u v : Sem Value).run P w = .ok q w ∧ Rel E w ρ st r q := by
  unfold abin at ho
  split at ho
  · rename_i k a k' b
    cases hx
    cases hy
    have hg : (eqGuard op t X Y (.int k a) (.int k' b)).run P w = .ok () w := by
      unfold eqGuard
      split <;> rfl
    split at ho
    · rename_i hk
      subst hk
      have hb : ∀ q, (binOp op t (.int k a) (.int k b)).run P w = .ok q w → (do eqGuard op t X Y (.int k a) (.int k b); binOp op t (.int k a) (.int k b) : Sem Value).run P w = .ok q w := fun q hq => by
        simp only [Sem.run_bind, hg, Result.andThen_ok, hq]
      cases op <;> simp only [Option.some.injEq, Prod.mk.injEq, reduceCtorEq] at ho <;> obtain ⟨rfl, rfl⟩ := ho
      case add => exact ⟨_, hb _ (by simp [binOp, Op.intArith]), .int _ _⟩
      case sub => exact ⟨_, hb _ (by simp [binOp, Op.intArith]), .int _ _⟩
      case mul => exact ⟨_, hb _ (by simp [binOp, Op.intArith]), .int _ _⟩
      case quo =>
        have h0 : b ≠ 0 := hc
        exact ⟨_, hb _ (by simp [binOp, Op.intDiv, h0]), .int _ _⟩
      case rem =>
        have h0 : b ≠ 0 := hc
        exact ⟨_, hb _ (by simp [binOp, Op.intDiv, h0]), .int _ _⟩
      case eql => exact ⟨_, hb _ (by simp [binOp, Op.intCmp]), .bool _⟩
      case neq => exact ⟨_, hb _ (by simp [binOp, Op.intCmp]), .bool _⟩
      case lss => exact ⟨_, hb _ (by simp [binOp, Op.intCmp]), .bool _⟩
      case leq => exact ⟨_, hb _ (by simp [binOp, Op.intCmp]), .bool _⟩
      case gtr => exact ⟨_, hb _ (by simp [binOp, Op.intCmp]), .bool _⟩
      case geq => exact ⟨_, hb _ (by simp [binOp, Op.intCmp]), .bool _⟩
    · cases ho
  · rename_i a b
    cases hx
    cases hy
    have hg : (eqGuard op t X Y (.string a) (.string b)).run P w = .ok () w := by
      unfold eqGuard
      split <;> rfl
    have hb : ∀ q, (binOp op t (.string a) (.string b)).run P w = .ok q w → (do eqGuard op t X Y (.string a) (.string b); binOp op t (.string a) (.string b) : Sem Value).run P w = .ok q w := fun q hq => by
      simp only [Sem.run_bind, hg, Result.andThen_ok, hq]
    cases op <;> simp only [Option.some.injEq, Prod.mk.injEq, reduceCtorEq] at ho <;> obtain ⟨rfl, rfl⟩ := ho
    case add =>
      have h0 : (a.size : Int) + b.size ≤ 9223372036854775807 := hc
      exact ⟨_, hb _ (by simp [binOp, Op.stringOp, h0]), .str _⟩
    case eql => exact ⟨_, hb _ (by simp [binOp, Op.stringOp, beq_toListBytes]), .bool _⟩
    case neq => exact ⟨_, hb _ (by simp [binOp, Op.stringOp, bne, beq_toListBytes]), .bool _⟩
  · cases ho

theorem aeqFields_sound {C : Cfg U} {E : Enc U} {st : Nat → Prop} {d : Nat} {eq : TypeId → AVal U → AVal U → Option Bool}
    (heq : ∀ t x y u v b, eq t x y = some b → Rel E w ρ st x u → Rel E w ρ st y v → (Op.equalIn d t u v).run C.P w = .ok b w) {xs ys : List (AVal U)} {us vs : Array Value}
    (hu : us.size = xs.length) (hxs : ∀ k (h : k < xs.length), Rel E w ρ st xs[k] (us.getD k undef)) (hv : vs.size = ys.length) (hys : ∀ k (h : k < ys.length), Rel E w ρ st ys[k] (vs.getD k undef)) :
    ∀ (fs : List Field) (b : Bool), fs.all (fun f => f.name != "_") = true → aeqFields C.P eq xs ys fs = some b → (Op.eqFields d us vs fs).run C.P w = .ok b w := by
  intro fs
  induction fs with
  | nil =>
    intro b _ h
    simp only [aeqFields, Option.some.injEq] at h
    subst h
    rfl
  | cons f fs ih =>
    intro b hn h
    simp only [List.all_cons, Bool.and_eq_true, bne_iff_ne, ne_eq] at hn
    simp only [aeqFields] at h
    split at h
    · rename_i a c ha hc
      split at h
      · rename_i p q hp hq
        obtain rfl := Option.some.inj h
        obtain ⟨u, hu1, hu2⟩ := part_sound (P := C.P) ha hu hxs
        obtain ⟨v, hv1, hv2⟩ := part_sound (P := C.P) hc hv hys
        have he := heq _ _ _ _ _ _ hp hu2 hv2
        have hr := ih q hn.2 hq
        simp only [Op.eqFields, ne_eq, hn.1, not_false_eq_true, if_true, Sem.run_bind, hu1, hv1, he, Result.andThen_ok]
        cases p
        · simp
        · simpa using hr
      · cases h
    · cases h

theorem aeqItems_sound {C : Cfg U} {E : Enc U} {st : Nat → Prop} {d : Nat} {eq : TypeId → AVal U → AVal U → Option Bool}
    (heq : ∀ t x y u v b, eq t x y = some b → Rel E w ρ st x u → Rel E w ρ st y v → (Op.equalIn d t u v).run C.P w = .ok b w) {xs ys : List (AVal U)} {us vs : Array Value}
    (hu : us.size = xs.length) (hxs : ∀ k (h : k < xs.length), Rel E w ρ st xs[k] (us.getD k undef)) (hv : vs.size = ys.length) (hys : ∀ k (h : k < ys.length), Rel E w ρ st ys[k] (vs.getD k undef)) {e n : Nat} :
    ∀ (is : List Nat) (b : Bool), aeqItems C.P eq e n xs ys is = some b → (Op.eqItems d e n us vs is).run C.P w = .ok b w := by
  intro is
  induction is with
  | nil =>
    intro b h
    simp only [aeqItems, Option.some.injEq] at h
    subst h
    rfl
  | cons i is ih =>
    intro b h
    simp only [aeqItems] at h
    split at h
    · rename_i a c ha hc
      split at h
      · rename_i p q hp hq
        obtain rfl := Option.some.inj h
        obtain ⟨u, hu1, hu2⟩ := part_sound (P := C.P) ha hu hxs
        obtain ⟨v, hv1, hv2⟩ := part_sound (P := C.P) hc hv hys
        have he := heq _ _ _ _ _ _ hp hu2 hv2
        have hr := ih q hq
        simp only [Op.eqItems, Sem.run_bind, hu1, hv1, he, Result.andThen_ok]
        cases p
        · simp
        · simpa using hr
      · cases h
    · cases h

theorem aeq_sound {C : Cfg U} {E : Enc U} {st : Nat → Prop} (d : Nat) : ∀ (m : Nat) (t : TypeId) (x y : AVal U) (u v : Value) (b : Bool), aeq C m t x y = some b → Rel E w ρ st x u → Rel E w ρ st y v → (Op.equalIn (m + d) t u v).run C.P w = .ok b w := by
  intro m
  induction m with
  | zero => intro t x y u v b h; cases h
  | succ m ih =>
    intro t x y u v b h hx hy
    rw [Nat.succ_add]
    simp only [aeq] at h
    split at h
    · cases hx
      cases hy
      split at h
      · rename_i hu
        obtain rfl := Option.some.inj h
        exact run_equalIn_bool w _ t _ _ hu
      · cases h
    · cases hx
      cases hy
      split at h
      · rename_i hu
        split at h
        · rename_i hk
          subst hk
          obtain rfl := Option.some.inj h
          exact run_equalIn_int w _ t _ _ _ _ hu
        · cases h
      · cases h
    · cases hx
      cases hy
      split at h
      · rename_i hu
        obtain rfl := Option.some.inj h
        rw [run_equalIn_string w _ t _ _ hu, beq_toListBytes]
      · cases h
    · cases hx with
      | agg _ us hus hxs =>
        cases hy with
        | agg _ vs hvs hys =>
          split at h
          · rename_i fields hu
            have hf : C.P.fieldsOf t = fields := by simp [Program.fieldsOf, hu]
            cases hpl : C.plain t with
            | false => rw [hpl] at h; cases h
            | true =>
              rw [hpl] at h
              obtain ⟨h1, h2, h3⟩ := C.plainOK t hpl
              rw [run_equalIn_struct w _ t us vs (by rw [hf]; exact hu) h1]
              rw [hf] at h3 ⊢
              exact aeqFields_sound (fun t x y u v b => ih t x y u v b) hus hxs hvs hys _ _ h3 h
          · rename_i len e hu
            split at h
            · rename_i n hn
              obtain ⟨i, hi, rfl⟩ := sizeT_spec hn
              rw [run_equalIn_array w _ us vs hu hi]
              have hc : C.P.cellsOf e = i.size := by simp [Program.cellsOf, hi]
              rw [hc]
              exact aeqItems_sound (fun t x y u v b => ih t x y u v b) hus hxs hvs hys _ _ h
            · cases h
          · cases h
    · cases h

theorem abinAt_sound {C : Cfg U} {op : BinOp} {t : TypeId} {x y : AVal U} {u v : Value} {X Y : Operand} {E : Enc U} {st : Nat → Prop} (hx : Rel E w ρ st x u) (hy : Rel E w ρ st y v)
    {cs : List Prop} {r : AVal U} (ho : abinAt C op t x y = some (cs, r)) (hc : conj cs) :
    ∃ q, (do eqGuard op t X Y u v; binOp op t u v : Sem Value).run C.P w = .ok q w ∧ Rel E w ρ st r q := by
  unfold abinAt at ho
  split at ho
  · rename_i xs ys
    cases hpl : C.plain t with
    | false => rw [hpl] at ho; cases ho
    | true =>
      rw [hpl] at ho
      obtain ⟨h1, h2, h3⟩ := C.plainOK t hpl
      have main : ∀ b, aeq C 40 t (.agg xs) (.agg ys) = some b → (Op.equalIn 10000 t u v).run C.P w = .ok b w := fun b hb => aeq_sound 9960 40 _ _ _ _ _ _ hb hx hy
      cases hx
      cases hy
      rename_i us hus hxs vs hvs hys
      have hg : (eqGuard op t X Y (.agg us) (.agg vs)).run C.P w = .ok () w := run_eqGuard_agg w op t X Y us vs h2
      simp only [cond_true] at ho
      split at ho
      · rename_i b hb
        simp only [Option.some.injEq, Prod.mk.injEq] at ho
        obtain ⟨rfl, rfl⟩ := ho
        refine ⟨.bool b, ?_, .bool _⟩
        simp only [Sem.run_bind, hg, Result.andThen_ok, run_eql_struct, main _ hb]
      · rename_i b hb
        simp only [Option.some.injEq, Prod.mk.injEq] at ho
        obtain ⟨rfl, rfl⟩ := ho
        refine ⟨.bool !b, ?_, .bool _⟩
        simp only [Sem.run_bind, hg, Result.andThen_ok, run_neq_struct, main _ hb]
      · cases ho
  · rename_i a b
    have main : ∀ q, aeq C 1 t (.bool a) (.bool b) = some q → (Op.equalIn 10000 t u v).run C.P w = .ok q w := fun q hb => aeq_sound 9999 1 _ _ _ _ _ _ hb hx hy
    cases hx
    cases hy
    have hg : (eqGuard op t X Y (.bool a) (.bool b)).run C.P w = .ok () w := by
      unfold eqGuard
      split <;> rfl
    split at ho
    · rename_i q hb
      simp only [Option.some.injEq, Prod.mk.injEq] at ho
      obtain ⟨rfl, rfl⟩ := ho
      refine ⟨.bool q, ?_, .bool _⟩
      simp only [Sem.run_bind, hg, Result.andThen_ok, binOp, Op.equal, Op.maxDepth, main _ hb]
      rfl
    · rename_i q hb
      simp only [Option.some.injEq, Prod.mk.injEq] at ho
      obtain ⟨rfl, rfl⟩ := ho
      refine ⟨.bool !q, ?_, .bool _⟩
      simp only [Sem.run_bind, hg, Result.andThen_ok, binOp, Op.equal, Op.maxDepth, main _ hb]
      rfl
    · cases ho
  · exact abin_sound hx hy ho hc

theorem aun_sound {P : Program} {op : UnOp} {x r : AVal U} {u : Value} {E : Enc U} {st : Nat → Prop} (hx : Rel E w ρ st x u) (ho : aun op x = some r) :
    ∃ q, (Op.unary op u).run P w = .ok q w ∧ Rel E w ρ st r q := by
  unfold aun at ho
  split at ho
  · cases hx
    split at ho
    · obtain rfl := Option.some.inj ho
      exact ⟨_, by simp [Op.unary, Op.intArith], .int _ _⟩
    · cases ho
  · cases hx
    split at ho
    · obtain rfl := Option.some.inj ho
      exact ⟨_, by simp [Op.unary], .bool _⟩
    · cases ho
  · cases ho

theorem fieldOff_spec {P : Program} {t : TypeId} {f fo : Nat} (h : fieldOff P t f = some fo) : ∃ fields fl i, P.underlying t = some (.struct fields) ∧ fields[f]? = some fl ∧ P.info? fl.type = some i ∧ i.size ≠ 0 ∧ fl.offset = fo := by
  unfold fieldOff at h
  split at h
  · rename_i fields hu
    split at h
    · rename_i fl hf
      split at h
      · rename_i m hm
        obtain ⟨i, hi, his⟩ := sizeT_spec hm
        exact ⟨fields, fl, i, hu, hf, hi, by omega, Option.some.inj h⟩
      · cases h
    · cases h
  · cases h

theorem addr_add (b o k : Nat) : (⟨b, o, none⟩ : Addr).add k = ⟨b, o + k, none⟩ := Addr.add_at b o k

theorem fieldAt_run {P : Program} {t : TypeId} {f fo b o : Nat} (h : fieldOff P t f = some fo) : (Instr.fieldAt t (.pointer (some ⟨b, o, none⟩)) f).run P w = .ok (.pointer (some ⟨b, o + fo, none⟩)) w := by
  obtain ⟨fields, fl, i, hu, hf, hi, hs, rfl⟩ := fieldOff_spec h
  simp only [Instr.fieldAt, Sem.run_bind, run_underlying hu, Result.andThen_ok, hf, Instr.sureAddr, Sem.run_pure, fieldPlace, sizeOf, typeInfo, run_program, hi, if_neg hs, addr_add]

/-- A pointer moved on by some cells. -/
theorem fieldAddr_sound {P : Program} {E : Enc U} {st : Nat → Prop} {look : Nat → Option (AObj U)} {t : TypeId} {f fo : Nat} (h : fieldOff P t f = some fo) {x r : AVal U} {v : Value} (hx : Rel E w ρ st x v)
    {cs : List Prop} {ob : Option (Nat × AObj U)}
    (hr : moveOn look fo x = some (cs, r, ob)) (hcur : ∀ id g i off sz, storable look (.eptr id g i off sz) = true → ∃ u, ρ id = some (g, u)) :
    ∃ q, (Instr.fieldAt t v f).run P w = .ok q w ∧ Rel E w ρ st r q ∧ ob = none := by
  unfold moveOn at hr
  cases hx with
  | ptr id off b hb =>
    simp only [val, Option.some.injEq, Prod.mk.injEq] at hr
    obtain ⟨_, rfl, rfl⟩ := hr
    exact ⟨_, fieldAt_run h, .ptr id _ b hb, rfl⟩
  | eptr id g i off sz b n' cap hb hi =>
    have hr' := (cond_some hr).2
    simp only [val, Option.some.injEq, Prod.mk.injEq] at hr'
    obtain ⟨_, rfl, rfl⟩ := hr'
    refine ⟨_, fieldAt_run h, ?_, rfl⟩
    rw [Nat.add_assoc]
    exact .eptr id g i _ sz b n' cap hb hi
  | eptrOld id g i off sz g' u v hb hg =>
    obtain ⟨u', hu'⟩ := hcur _ _ _ _ _ (cond_some hr).1
    rw [hb] at hu'
    simp only [Option.some.injEq, Prod.mk.injEq] at hu'
    omega
  | ref l off b o f' hst hc hl =>
    simp only [val, Option.some.injEq, Prod.mk.injEq] at hr
    obtain ⟨_, rfl, rfl⟩ := hr
    refine ⟨_, fieldAt_run h, ?_, rfl⟩
    rw [Nat.add_assoc]
    exact .ref l _ b o f' hst hc hl
  | _ => simp at hr
end
end Go.Vm
