/-
  An interpreter of the model's code over abstract values, and that it is right: part 3. Conditions: none; lemmas over any program.
-/
import Derived.Test.YtohecfbnmmgimaaV2
import Derived.ChangeKeysEq
namespace Go.Vm
open Go.RowKit
set_option linter.unusedVariables false

section
variable {U : Univ} {n : Nat} {N : Nat → Prop} {w0 w w' : World} {ρ ρ' : Nat → Option (Nat × Value)} {s : ASt U} {a : Act}

theorem wp_value {P : Program} {o : Oper} {K : Act → World → Prop} {Q : Exit → Act → World → Prop} {u : Value} (hr : (execOp a.eval o).run P w = .ok (.value u) w') (hk : K (a.put o.dst u) w') : o.wp P a w K Q := by
  unfold Oper.wp
  rw [hr]
  exact hk

theorem wp_skip' {P : Program} {o : Oper} {K : Act → World → Prop} {Q : Exit → Act → World → Prop} (hr : (execOp a.eval o).run P w = .ok .skip w') (hk : K (a.put o.dst undef) w') : o.wp P a w K Q := by
  unfold Oper.wp
  rw [hr]
  exact hk

theorem wp_enter {P : Program} {o : Oper} {K : Act → World → Prop} {Q : Exit → Act → World → Prop} {f : FuncId} {args : Array Value} (hr : (execOp a.eval o).run P w = .ok (.enter f args) w)
    (hk : Calls P f args w fun e w' => ∃ v, e = .returned v ∧ K (a.put o.dst v) w') : o.wp P a w K Q := by
  unfold Oper.wp
  rw [hr]
  exact hk.mono fun e w' ⟨v, he, hv⟩ => by subst he; exact hv

theorem abin_sound {P : Program} {op : BinOp} {t : TypeId} {x y : AVal U} {u v : Value} {X Y : Operand} {E : Enc U} {st : Nat → Prop} (hx : Rel E w ρ st x u) (hy : Rel E w ρ st y v)
    {cs : List Prop} {r : AVal U} (ho : abin op x y = some (cs, r)) (hc : conj cs) :
    ∃ q, (do eqGuard op t X Y u v; binOp op t u v : Sem Value).run P w = .ok q w ∧ Rel E w ρ st r q := by
  unfold abin at ho
  split at ho
  · rename_i k a k' b
    cases hx
    cases hy
    have hg : (eqGuard op t X Y (.int k a) (.int k' b)).run P w = .ok () w := by
      unfold eqGuard
      split <;> rfl
    split at ho
    · rename_i hk
      subst hk
      have hb : ∀ q, (binOp op t (.int k a) (.int k b)).run P w = .ok q w → (do eqGuard op t X Y (.int k a) (.int k b); binOp op t (.int k a) (.int k b) : Sem Value).run P w = .ok q w := fun q hq => by
        simp only [Sem.run_bind, hg, Result.andThen_ok, hq]
      cases op <;> simp only [Option.some.injEq, Prod.mk.injEq, reduceCtorEq] at ho <;> obtain ⟨rfl, rfl⟩ := ho
      case add => exact ⟨_, hb _ (by simp [binOp, Op.intArith]), .int _ _⟩
      case sub => exact ⟨_, hb _ (by simp [binOp, Op.intArith]), .int _ _⟩
      case mul => exact ⟨_, hb _ (by simp [binOp, Op.intArith]), .int _ _⟩
      case quo =>
        have h0 : b ≠ 0 := hc
        exact ⟨_, hb _ (by simp [binOp, Op.intDiv, h0]), .int _ _⟩
      case rem =>
        have h0 : b ≠ 0 := hc
        exact ⟨_, hb _ (by simp [binOp, Op.intDiv, h0]), .int _ _⟩
      case eql => exact ⟨_, hb _ (by simp [binOp, Op.intCmp]), .bool _⟩
      case neq => exact ⟨_, hb _ (by simp [binOp, Op.intCmp]), .bool _⟩
      case lss => exact ⟨_, hb _ (by simp [binOp, Op.intCmp]), .bool _⟩
      case leq => exact ⟨_, hb _ (by simp [binOp, Op.intCmp]), .bool _⟩
      case gtr => exact ⟨_, hb _ (by simp [binOp, Op.intCmp]), .bool _⟩
      case geq => exact ⟨_, hb _ (by simp [binOp, Op.intCmp]), .bool _⟩
    · cases ho
  · rename_i a b
    cases hx
    cases hy
    have hg : (eqGuard op t X Y (.string a) (.string b)).run P w = .ok () w := by
      unfold eqGuard
      split <;> rfl
    have hb : ∀ q, (binOp op t (.string a) (.string b)).run P w = .ok q w → (do eqGuard op t X Y (.string a) (.string b); binOp op t (.string a) (.string b) : Sem Value).run P w = .ok q w := fun q hq => by
      simp only [Sem.run_bind, hg, Result.andThen_ok, hq]
    cases op <;> simp only [Option.some.injEq, Prod.mk.injEq, reduceCtorEq] at ho <;> obtain ⟨rfl, rfl⟩ := ho
    case add =>
      have h0 : (a.size : Int) + b.size ≤ 9223372036854775807 := hc
      exact ⟨_, hb _ (by simp [binOp, Op.stringOp, h0]), .str _⟩
    case eql => exact ⟨_, hb _ (by simp [binOp, Op.stringOp, beq_toListBytes]), .bool _⟩
    case neq => exact ⟨_, hb _ (by simp [binOp, Op.stringOp, bne, beq_toListBytes]), .bool _⟩
  · cases ho

theorem aeqFields_sound {C : Cfg U} {E : Enc U} {st : Nat → Prop} {d : Nat} {eq : TypeId → AVal U → AVal U → Option Bool}
    (heq : ∀ t x y u v b, eq t x y = some b → Rel E w ρ st x u → Rel E w ρ st y v → (Op.equalIn d t u v).run C.P w = .ok b w) {xs ys : List (AVal U)} {us vs : Array Value}
    (hu : us.size = xs.length) (hxs : ∀ k (h : k < xs.length), Rel E w ρ st xs[k] (us.getD k undef)) (hv : vs.size = ys.length) (hys : ∀ k (h : k < ys.length), Rel E w ρ st ys[k] (vs.getD k undef)) :
    ∀ (fs : List Field) (b : Bool), fs.all (fun f => f.name != "_") = true → aeqFields C.P eq xs ys fs = some b → (Op.eqFields d us vs fs).run C.P w = .ok b w := by
  intro fs
  induction fs with
  | nil =>
    intro b _ h
    simp only [aeqFields, Option.some.injEq] at h
    subst h
    rfl
  | cons f fs ih =>
    intro b hn h
    simp only [List.all_cons, Bool.and_eq_true, bne_iff_ne, ne_eq] at hn
    simp only [aeqFields] at h
    split at h
    · rename_i a c ha hc
      split at h
      · rename_i p q hp hq
        obtain rfl := Option.some.inj h
        obtain ⟨u, hu1, hu2⟩ := part_sound (P := C.P) ha hu hxs
        obtain ⟨v, hv1, hv2⟩ := part_sound (P := C.P) hc hv hys
        have he := heq _ _ _ _ _ _ hp hu2 hv2
        have hr := ih q hn.2 hq
        simp only [Op.eqFields, ne_eq, hn.1, not_false_eq_true, if_true, Sem.run_bind, hu1, hv1, he, Result.andThen_ok]
        cases p
        · simp
        · simpa using hr
      · cases h
    · cases h

theorem aeqItems_sound {C : Cfg U} {E : Enc U} {st : Nat → Prop} {d : Nat} {eq : TypeId → AVal U → AVal U → Option Bool}
    (heq : ∀ t x y u v b, eq t x y = some b → Rel E w ρ st x u → Rel E w ρ st y v → (Op.equalIn d t u v).run C.P w = .ok b w) {xs ys : List (AVal U)} {us vs : Array Value}
    (hu : us.size = xs.length) (hxs : ∀ k (h : k < xs.length), Rel E w ρ st xs[k] (us.getD k undef)) (hv : vs.size = ys.length) (hys : ∀ k (h : k < ys.length), Rel E w ρ st ys[k] (vs.getD k undef)) {e n : Nat} :
    ∀ (is : List Nat) (b : Bool), aeqItems C.P eq e n xs ys is = some b → (Op.eqItems d e n us vs is).run C.P w = .ok b w := by
  intro is
  induction is with
  | nil =>
    intro b h
    simp only [aeqItems, Option.some.injEq] at h
    subst h
    rfl
  | cons i is ih =>
    intro b h
    simp only [aeqItems] at h
    split at h
    · rename_i a c ha hc
      split at h
      · rename_i p q hp hq
        obtain rfl := Option.some.inj h
        obtain ⟨u, hu1, hu2⟩ := part_sound (P := C.P) ha hu hxs
        obtain ⟨v, hv1, hv2⟩ := part_sound (P := C.P) hc hv hys
        have he := heq _ _ _ _ _ _ hp hu2 hv2
        have hr := ih q hq
        simp only [Op.eqItems, Sem.run_bind, hu1, hv1, he, Result.andThen_ok]
        cases p
        · simp
        · simpa using hr
      · cases h
    · cases h

theorem aeq_sound {C : Cfg U} {E : Enc U} {st : Nat → Prop} (d : Nat) : ∀ (m : Nat) (t : TypeId) (x y : AVal U) (u v : Value) (b : Bool), aeq C m t x y = some b → Rel E w ρ st x u → Rel E w ρ st y v → (Op.equalIn (m + d) t u v).run C.P w = .ok b w := by
  intro m
  induction m with
  | zero => intro t x y u v b h; cases h
  | succ m ih =>
    intro t x y u v b h hx hy
    rw [Nat.succ_add]
    simp only [aeq] at h
    split at h
    · cases hx
      cases hy
      split at h
      · rename_i hu
        obtain rfl := Option.some.inj h
        exact run_equalIn_bool w _ t _ _ hu
      · cases h
    · cases hx
      cases hy
      split at h
      · rename_i hu
        split at h
        · rename_i hk
          subst hk
          obtain rfl := Option.some.inj h
          exact run_equalIn_int w _ t _ _ _ _ hu
        · cases h
      · cases h
    · cases hx
      cases hy
      split at h
      · rename_i hu
        obtain rfl := Option.some.inj h
        rw [run_equalIn_string w _ t _ _ hu, beq_toListBytes]
      · cases h
    · cases hx with
      | agg _ us hus hxs =>
        cases hy with
        | agg _ vs hvs hys =>
          split at h
          · rename_i fields hu
            have hf : C.P.fieldsOf t = fields := by simp [Program.fieldsOf, hu]
            cases hpl : C.plain t with
            | false => rw [hpl] at h; cases h
            | true =>
              rw [hpl] at h
              obtain ⟨h1, h2, h3⟩ := C.plainOK t hpl
              rw [run_equalIn_struct w _ t us vs (by rw [hf]; exact hu) h1]
              rw [hf] at h3 ⊢
              exact aeqFields_sound (fun t x y u v b => ih t x y u v b) hus hxs hvs hys _ _ h3 h
          · rename_i len e hu
            split at h
            · rename_i n hn
              obtain ⟨i, hi, rfl⟩ := sizeT_spec hn
              rw [run_equalIn_array w _ us vs hu hi]
              have hc : C.P.cellsOf e = i.size := by simp [Program.cellsOf, hi]
              rw [hc]
              exact aeqItems_sound (fun t x y u v b => ih t x y u v b) hus hxs hvs hys _ _ h
            · cases h
          · cases h
    · cases h

theorem abinAt_sound {C : Cfg U} {op : BinOp} {t : TypeId} {x y : AVal U} {u v : Value} {X Y : Operand} {E : Enc U} {st : Nat → Prop} (hx : Rel E w ρ st x u) (hy : Rel E w ρ st y v)
    {cs : List Prop} {r : AVal U} (ho : abinAt C op t x y = some (cs, r)) (hc : conj cs) :
    ∃ q, (do eqGuard op t X Y u v; binOp op t u v : Sem Value).run C.P w = .ok q w ∧ Rel E w ρ st r q := by
  unfold abinAt at ho
  split at ho
  · rename_i xs ys
    cases hpl : C.plain t with
    | false => rw [hpl] at ho; cases ho
    | true =>
      rw [hpl] at ho
      obtain ⟨h1, h2, h3⟩ := C.plainOK t hpl
      have main : ∀ b, aeq C 40 t (.agg xs) (.agg ys) = some b → (Op.equalIn 10000 t u v).run C.P w = .ok b w := fun b hb => aeq_sound 9960 40 _ _ _ _ _ _ hb hx hy
      cases hx
      cases hy
      rename_i us hus hxs vs hvs hys
      have hg : (eqGuard op t X Y (.agg us) (.agg vs)).run C.P w = .ok () w := run_eqGuard_agg w op t X Y us vs h2
      simp only [cond_true] at ho
      split at ho
      · rename_i b hb
        simp only [Option.some.injEq, Prod.mk.injEq] at ho
        obtain ⟨rfl, rfl⟩ := ho
        refine ⟨.bool b, ?_, .bool _⟩
        simp only [Sem.run_bind, hg, Result.andThen_ok, run_eql_struct, main _ hb]
      · rename_i b hb
        simp only [Option.some.injEq, Prod.mk.injEq] at ho
        obtain ⟨rfl, rfl⟩ := ho
        refine ⟨.bool !b, ?_, .bool _⟩
        simp only [Sem.run_bind, hg, Result.andThen_ok, run_neq_struct, main _ hb]
      · cases ho
  · rename_i a b
    have main : ∀ q, aeq C 1 t (.bool a) (.bool b) = some q → (Op.equalIn 10000 t u v).run C.P w = .ok q w := fun q hb => aeq_sound 9999 1 _ _ _ _ _ _ hb hx hy
    cases hx
    cases hy
    have hg : (eqGuard op t X Y (.bool a) (.bool b)).run C.P w = .ok () w := by
      unfold eqGuard
      split <;> rfl
    split at ho
    · rename_i q hb
      simp only [Option.some.injEq, Prod.mk.injEq] at ho
      obtain ⟨rfl, rfl⟩ := ho
      refine ⟨.bool q, ?_, .bool _⟩
      simp only [Sem.run_bind, hg, Result.andThen_ok, binOp, Op.equal, Op.maxDepth, main _ hb]
      rfl
    · rename_i q hb
      simp only [Option.some.injEq, Prod.mk.injEq] at ho
      obtain ⟨rfl, rfl⟩ := ho
      refine ⟨.bool !q, ?_, .bool _⟩
      simp only [Sem.run_bind, hg, Result.andThen_ok, binOp, Op.equal, Op.maxDepth, main _ hb]
      rfl
    · cases ho
  · exact abin_sound hx hy ho hc

theorem aun_sound {P : Program} {op : UnOp} {x r : AVal U} {u : Value} {E : Enc U} {st : Nat → Prop} (hx : Rel E w ρ st x u) (ho : aun op x = some r) :
    ∃ q, (Op.unary op u).run P w = .ok q w ∧ Rel E w ρ st r q := by
  unfold aun at ho
  split at ho
  · cases hx
    split at ho
    · obtain rfl := Option.some.inj ho
      exact ⟨_, by simp [Op.unary, Op.intArith], .int _ _⟩
    · cases ho
  · cases hx
    split at ho
    · obtain rfl := Option.some.inj ho
      exact ⟨_, by simp [Op.unary], .bool _⟩
    · cases ho
  · cases ho

theorem fieldOff_spec {P : Program} {t : TypeId} {f fo : Nat} (h : fieldOff P t f = some fo) : ∃ fields fl i, P.underlying t = some (.struct fields) ∧ fields[f]? = some fl ∧ P.info? fl.type = some i ∧ i.size ≠ 0 ∧ fl.offset = fo := by
  unfold fieldOff at h
  split at h
  · rename_i fields hu
    split at h
    · rename_i fl hf
      split at h
      · rename_i m hm
        obtain ⟨i, hi, his⟩ := sizeT_spec hm
        exact ⟨fields, fl, i, hu, hf, hi, by omega, Option.some.inj h⟩
      · cases h
    · cases h
  · cases h

theorem addr_add (b o k : Nat) : (⟨b, o, none⟩ : Addr).add k = ⟨b, o + k, none⟩ := Addr.add_at b o k

theorem fieldAt_run {P : Program} {t : TypeId} {f fo b o : Nat} (h : fieldOff P t f = some fo) : (Instr.fieldAt t (.pointer (some ⟨b, o, none⟩)) f).run P w = .ok (.pointer (some ⟨b, o + fo, none⟩)) w := by
  obtain ⟨fields, fl, i, hu, hf, hi, hs, rfl⟩ := fieldOff_spec h
  simp only [Instr.fieldAt, Sem.run_bind, run_underlying hu, Result.andThen_ok, hf, Instr.sureAddr, Sem.run_pure, fieldPlace, sizeOf, typeInfo, run_program, hi, if_neg hs, addr_add]

/-- A pointer moved on by some cells. -/
theorem fieldAddr_sound {P : Program} {E : Enc U} {st : Nat → Prop} {look : Nat → Option (AObj U)} {t : TypeId} {f fo : Nat} (h : fieldOff P t f = some fo) {x r : AVal U} {v : Value} (hx : Rel E w ρ st x v)
    {cs : List Prop} {ob : Option (Nat × AObj U)}
    (hr : moveOn look fo x = some (cs, r, ob)) (hcur : ∀ id g i off sz, storable look (.eptr id g i off sz) = true → ∃ u, ρ id = some (g, u)) :
    ∃ q, (Instr.fieldAt t v f).run P w = .ok q w ∧ Rel E w ρ st r q ∧ ob = none := by
  unfold moveOn at hr
  cases hx with
  | ptr id off b hb =>
    simp only [val, Option.some.injEq, Prod.mk.injEq] at hr
    obtain ⟨_, rfl, rfl⟩ := hr
    exact ⟨_, fieldAt_run h, .ptr id _ b hb, rfl⟩
  | eptr id g i off sz b n' cap hb hi =>
    have hr' := (cond_some hr).2
    simp only [val, Option.some.injEq, Prod.mk.injEq] at hr'
    obtain ⟨_, rfl, rfl⟩ := hr'
    refine ⟨_, fieldAt_run h, ?_, rfl⟩
    rw [Nat.add_assoc]
    exact .eptr id g i _ sz b n' cap hb hi
  | eptrOld id g i off sz g' u v hb hg =>
    obtain ⟨u', hu'⟩ := hcur _ _ _ _ _ (cond_some hr).1
    rw [hb] at hu'
    simp only [Option.some.injEq, Prod.mk.injEq] at hu'
    omega
  | ref l off b o f' hst hc hl =>
    simp only [val, Option.some.injEq, Prod.mk.injEq] at hr
    obtain ⟨_, rfl, rfl⟩ := hr
    refine ⟨_, fieldAt_run h, ?_, rfl⟩
    rw [Nat.add_assoc]
    exact .ref l _ b o f' hst hc hl
  | _ => simp at hr
end
end Go.Vm

namespace Go.Vm
open Go.RowKit
set_option linter.unusedVariables false

section
variable {U : Univ} {n : Nat} {N : Nat → Prop} {w0 w w' : World} {ρ ρ' : Nat → Option (Nat × Value)} {s : ASt U} {a : Act}

theorem sizeEq {P : Program} {e m : Nat} (h : (match sizeT P e with | some n => Nat.beq n m | none => false) = true) : ∃ i, P.info? e = some i ∧ i.size = m := by
  split at h
  · rename_i n hn
    obtain ⟨i, hi, his⟩ := sizeT_spec hn
    exact ⟨i, hi, by rw [his]; exact Nat.eq_of_beq_eq_true h⟩
  · cases h

theorem toNat_lt {i : Int} {n : Nat} (h : 0 ≤ i ∧ i < n) : i.toNat < n := by omega

theorem indexAddr_sound {C : Cfg U} (h : RR C.E n N w0 ρ s a w) {look : Nat → Option (AObj U)} (hlook : ∀ id ob, look id = some ob → s.objs id = some ob) {t : TypeId}
    {x : AVal U} {v : Value} (hx : Rel C.E w ρ (Stab N ρ w) x v) {k : IntKind} {i : Int} {cs : List Prop} {r : AVal U} {ob : Option (Nat × AObj U)}
    (ho : indexAddrOf C look t x i = some (cs, r, ob)) (hc : conj cs) : ob = none ∧ ∃ q, (Instr.indexAt t v (.int k i)).run C.P w = .ok q w ∧ Rel C.E w ρ (Stab N ρ w) r q := by
  unfold indexAddrOf at ho
  split at ho
  · rename_i e hu
    split at ho
    · rename_i τ xs
      have hbb := cond_some ho
      clear ho
      obtain ⟨hb, ho⟩ := hbb
      simp only [Option.some.injEq, Prod.mk.injEq] at ho
      obtain ⟨rfl, rfl, rfl⟩ := ho
      obtain ⟨ti, hti, hts⟩ := sizeEq hb
      have hi : 0 ≤ i ∧ i < xs.length := hc
      have hi' := toNat_lt hi
      refine ⟨rfl, ?_⟩
      cases hx with
      | sl0 _ => simp at hi'
      | sl _ _ b o cap f hst hcap hcc hl =>
        refine ⟨.pointer (some ⟨b, o + i.toNat * U.size τ, none⟩), ?_, ?_⟩
        · simp [Instr.indexAt, asIntOf, run_underlying hu, hi, sizeOf, typeInfo, hti, hts, addr_add]
        · have hxi : xs.getD i.toNat (C.E.dflt τ) = xs[i.toNat] := by simp [hi']
          rw [hxi]
          have := Rel.ref (E := C.E) (w := w) (ρ := ρ) (st := Stab N ρ w) (C.E.enc τ xs[i.toNat]) 0 b (o + i.toNat * U.size τ) (fun k => f (i.toNat * U.size τ + k)) hst (fun k hk => by
            have hk' : k < U.size τ := by rw [C.E.enc_len] at hk; exact hk
            have h4 : (i.toNat + 1) * U.size τ ≤ xs.length * U.size τ := Nat.mul_le_mul_right _ hi'
            rw [Nat.add_mul, Nat.one_mul] at h4
            rw [Nat.add_assoc]
            exact hcc _ (by omega)) (fun k hk => hl _ hi' k hk)
          simpa using this
    · rename_i id g
      split at ho
      · rename_i τ g' xs hl
        have hbb := cond_some ho
        clear ho
        obtain ⟨hb, ho⟩ := hbb
        simp only [Option.some.injEq, Prod.mk.injEq] at ho
        obtain ⟨rfl, rfl, rfl⟩ := ho
        simp only [Bool.and_eq_true] at hb
        obtain rfl := Nat.eq_of_beq_eq_true hb.1
        obtain ⟨ti, hti, hts⟩ := sizeEq hb.2
        have hi : 0 ≤ i ∧ i < xs.length := hc
        have hi' := toNat_lt hi
        refine ⟨rfl, ?_⟩
        obtain ⟨u, cs', h1, hp, h2, h3⟩ := h.objs _ _ (hlook _ _ hl)
        cases hx with
        | osl _ _ u' hr' hp' =>
          rw [h1] at hr'
          simp only [Option.some.injEq, Prod.mk.injEq, true_and] at hr'
          subst hr'
          rcases h2.2 with ⟨h0, hn0⟩ | ⟨gb, cap, cur, rfl, hbase, hgb, hn, hcm, hcs, htake⟩
          · omega
          · refine ⟨.pointer (some ⟨gb, i.toNat * U.size τ, none⟩), ?_, ?_⟩
            · simp [Instr.indexAt, asIntOf, run_underlying hu, hi, sizeOf, typeInfo, hti, hts, addr_add]
            · exact .eptr id g i.toNat 0 (U.size τ) gb xs.length cap h1 hi'
        | oslOld _ _ g' u' v hr' hg =>
          rw [h1] at hr'
          simp only [Option.some.injEq, Prod.mk.injEq] at hr'
          omega
      · cases ho
    · simp only [Option.some.injEq, Prod.mk.injEq] at ho
      obtain ⟨rfl, rfl, rfl⟩ := ho
      exact (show False from hc).elim
    · cases ho
  · rename_i len e hu
    split at ho
    · rename_i m hm
      obtain ⟨ti, hti, rfl⟩ := sizeT_spec hm
      split at ho
      · simp only [Option.some.injEq, Prod.mk.injEq] at ho
        obtain ⟨rfl, rfl, rfl⟩ := ho
        have hi : 0 ≤ i ∧ i < len := hc
        refine ⟨rfl, ?_⟩
        cases hx with
        | ptr _ _ b hb =>
          refine ⟨_, ?_, .ptr _ _ b hb⟩
          simp [Instr.indexAt, asIntOf, run_underlying hu, hi, sizeOf, typeInfo, hti, Instr.sureAddr, addr_add]
      · simp only [Option.some.injEq, Prod.mk.injEq] at ho
        obtain ⟨rfl, rfl, rfl⟩ := ho
        have hi : 0 ≤ i ∧ i < len := hc
        refine ⟨rfl, ?_⟩
        cases hx with
        | ref _ _ b o f hst hcc hl =>
          refine ⟨_, ?_, .ref _ _ b o f hst hcc hl⟩
          simp [Instr.indexAt, asIntOf, run_underlying hu, hi, sizeOf, typeInfo, hti, Instr.sureAddr, addr_add, Nat.add_assoc]
      · cases ho
    · cases ho
  · cases ho

theorem index_sound {C : Cfg U} {t : TypeId} {st : Nat → Prop}
    {x : AVal U} {v : Value} (hx : Rel C.E w ρ st x v) {k : IntKind} {i : Int} {cs : List Prop} {r : AVal U} {ob : Option (Nat × AObj U)}
    (ho : indexOf C t x i = some (cs, r, ob)) (hc : conj cs) : ob = none ∧ ∃ q, (Instr.index t v (.int k i)).run C.P w = .ok q w ∧ Rel C.E w ρ st r q := by
  unfold indexOf at ho
  split at ho
  · rename_i b hu
    simp only [Option.some.injEq, Prod.mk.injEq] at ho
    obtain ⟨rfl, rfl, rfl⟩ := ho
    have hi : 0 ≤ i ∧ i < b.size := hc
    have hi' := toNat_lt hi
    refine ⟨rfl, ?_⟩
    cases hx
    refine ⟨_, ?_, .int _ _⟩
    have e : b[i.toNat]? = some (b.data.toList.getD i.toNat 0) := by
      have h3 : b.data.toList.getD i.toNat 0 = b[i.toNat] := by
        have h4 : i.toNat < b.data.size := hi'
        have h5 : b.data[i.toNat]? = some b.data[i.toNat] := Array.getElem?_eq_getElem h4
        simp [h5]
        rfl
      rw [h3]
      exact getElem?_pos b i.toNat hi'
    simp only [Instr.index, asIntOf, Sem.run_bind, Sem.run_pure, Result.andThen_ok, run_underlying hu, if_pos hi.1, e]
  · rename_i len e l hu
    split at ho
    · rename_i m hm
      obtain ⟨ti, hti, rfl⟩ := sizeT_spec hm
      split at ho
      · rename_i y hy
        simp only [Option.some.injEq, Prod.mk.injEq] at ho
        obtain ⟨rfl, rfl, rfl⟩ := ho
        have hi : 0 ≤ i ∧ i < len := hc
        refine ⟨rfl, ?_⟩
        cases hx with
        | agg _ vs hn hl =>
          obtain ⟨q, hq, hr⟩ := part_sound (w := w) hy hn hl
          refine ⟨q, ?_, hr⟩
          simp only [Instr.index, asIntOf, Sem.run_bind, Sem.run_pure, Result.andThen_ok, run_underlying hu, if_pos hi, sizeOf, typeInfo, run_program, hti, hq]
      · cases ho
    · cases ho
  · cases ho

theorem sl_part {E : Enc U} {st : Nat → Prop} {τ : U.τ} {xs : List (U.T τ)} {b o cap l m c : Nat} {f : Nat → Value} (hst : st b) (hcap : m ≤ c) (hlm : l + m ≤ xs.length)
    (hc : ∀ k, k < xs.length * U.size τ → w.cell? ⟨b, o + k, none⟩ = some (f k)) (hl : ∀ i (h : i < xs.length) k (hk : k < (E.enc τ xs[i]).length), Rel E w ρ st (E.enc τ xs[i])[k] (f (i * U.size τ + k))) (a' : Addr)
    (ha : a' = ⟨b, o + l * U.size τ, none⟩ ∨ (m = 0 ∧ a' = ⟨b, o, none⟩)) :
    Rel E w ρ st (.sl τ ((xs.drop l).take m)) (.slice (some a') m c) := by
  have hlen : ((xs.drop l).take m).length = m := by simp; omega
  rcases ha with rfl | ⟨rfl, rfl⟩
  · have := Rel.sl (E := E) (w := w) (ρ := ρ) (st := st) τ ((xs.drop l).take m) b (o + l * U.size τ) c (fun k => f (l * U.size τ + k)) hst (by rw [hlen]; exact hcap) (fun k hk => by
      rw [hlen] at hk
      have h4 : (l + m) * U.size τ ≤ xs.length * U.size τ := Nat.mul_le_mul_right _ hlm
      rw [Nat.add_mul] at h4
      rw [Nat.add_assoc]
      exact hc _ (by omega)) (fun i hi k hk => by
      rw [hlen] at hi
      have e : ((xs.drop l).take m)[i]'(by rw [hlen]; exact hi) = xs[l + i]'(by omega) := by simp
      have hk2 : k < (E.enc τ (xs[l + i]'(by omega))).length := by rw [e] at hk; exact hk
      have := hl (l + i) (by omega) k hk2
      have e2 : (l + i) * U.size τ + k = l * U.size τ + (i * U.size τ + k) := by rw [Nat.add_mul]; omega
      rw [e2] at this
      simp only [e]
      exact this)
    rw [hlen] at this
    exact this
  · have h0 : (xs.drop l).take 0 = [] := rfl
    rw [h0]
    exact Rel.sl (E := E) (w := w) (ρ := ρ) (st := st) τ [] b o c f hst (by simp) (fun k hk => absurd hk (by simp)) (fun i hi => absurd hi (by simp))

theorem sliceAt_eq {P : Program} {t : TypeId} {d : TypeDesc} (hu : P.underlying t = some d) (hd : ∀ n e, d ≠ .array n e) (v : Value) (lo hi : Option Value) : (Instr.sliceAt t v lo hi none).run P w = (Instr.slice t v lo hi none).run P w := by
  simp only [Instr.sliceAt, Sem.run_bind, run_underlying hu, Result.andThen_ok]

theorem bound_ok {P : Program} {k : IntKind} {i : Int} {y : Nat} {code : BoundsCode} (h : 0 ≤ i ∧ i ≤ y) : (Instr.sliceBound (.int k i) y code).run P w = .ok i.toNat w := by
  simp [Instr.sliceBound, asIntOf, h]

theorem slice_sound {C : Cfg U} {st : Nat → Prop} {t : TypeId} {x : AVal U} {v : Value} (hx : Rel C.E w ρ st x v) {lo hi : Option (AVal U)} {lo' hi' : Option Value}
    (hlo : ∀ y, lo = some y → ∃ v, lo' = some v ∧ Rel C.E w ρ st y v) (hlo0 : lo = none → lo' = none)
    (hhi : ∀ y, hi = some y → ∃ v, hi' = some v ∧ Rel C.E w ρ st y v) (hhi0 : hi = none → hi' = none)
    {cs : List Prop} {r : AVal U} {ob : Option (Nat × AObj U)} (ho : sliceOf C t x lo hi = some (cs, r, ob)) (hc : conj cs) :
    ob = none ∧ ∃ q, (Instr.sliceAt t v lo' hi' none).run C.P w = .ok q w ∧ Rel C.E w ρ st r q := by
  unfold sliceOf at ho
  split at ho
  · rename_i b hu
    rw [sliceAt_eq hu (fun _ _ e => by cases e)]
    cases hx
    split at ho
    · rename_i kl l kh h
      simp only [Option.some.injEq, Prod.mk.injEq] at ho
      obtain ⟨rfl, rfl, rfl⟩ := ho
      obtain ⟨_, rfl, hv1⟩ := hlo _ rfl
      obtain ⟨_, rfl, hv2⟩ := hhi _ rfl
      cases hv1
      cases hv2
      have h0 : 0 ≤ l ∧ l ≤ h ∧ h ≤ b.size := hc
      refine ⟨rfl, _, ?_, .str _⟩
      have hb1 := bound_ok (P := C.P) (w := w) (k := kh) (code := .sliceAlen) (show 0 ≤ h ∧ h ≤ b.size by omega)
      have hb2 := bound_ok (P := C.P) (w := w) (k := kl) (code := .sliceB) (show 0 ≤ l ∧ l ≤ h.toNat by omega)
      simp [Instr.slice, Instr.sliceBounds, run_underlying hu, hb1, hb2]
    · rename_i kl l
      simp only [Option.some.injEq, Prod.mk.injEq] at ho
      obtain ⟨rfl, rfl, rfl⟩ := ho
      obtain ⟨_, rfl, hv1⟩ := hlo _ rfl
      obtain rfl := hhi0 rfl
      cases hv1
      have h0 : 0 ≤ l ∧ l ≤ b.size := hc
      refine ⟨rfl, _, ?_, .str _⟩
      have hb2 := bound_ok (P := C.P) (w := w) (k := kl) (code := .sliceB) (show 0 ≤ l ∧ l ≤ b.size by omega)
      simp [Instr.slice, Instr.sliceBounds, run_underlying hu, hb2]
    · rename_i kh h
      simp only [Option.some.injEq, Prod.mk.injEq] at ho
      obtain ⟨rfl, rfl, rfl⟩ := ho
      obtain ⟨_, rfl, hv2⟩ := hhi _ rfl
      obtain rfl := hlo0 rfl
      cases hv2
      have h0 : 0 ≤ h ∧ h ≤ b.size := hc
      refine ⟨rfl, _, ?_, .str _⟩
      have hb1 := bound_ok (P := C.P) (w := w) (k := kh) (code := .sliceAlen) (show 0 ≤ h ∧ h ≤ b.size by omega)
      simp [Instr.slice, Instr.sliceBounds, run_underlying hu, hb1]
    · simp only [Option.some.injEq, Prod.mk.injEq] at ho
      obtain ⟨rfl, rfl, rfl⟩ := ho
      obtain rfl := hlo0 rfl
      obtain rfl := hhi0 rfl
      refine ⟨rfl, _, ?_, .str _⟩
      simp [Instr.slice, Instr.sliceBounds, run_underlying hu]
    · cases ho
  · rename_i e τ xs hu
    have hbb := cond_some ho
    clear ho
    obtain ⟨hb, ho⟩ := hbb
    obtain ⟨ti, hti, hts⟩ := sizeEq hb
    rw [sliceAt_eq hu (fun _ _ e => by cases e)]
    -- the slice's value
    have hv : ∃ (ad : Option Addr) (cap : Nat), v = .slice ad xs.length cap ∧ xs.length ≤ cap ∧ ∀ (l m c : Nat), m ≤ c → l + m ≤ xs.length → (m = 0 ∨ c ≠ 0) →
        ∀ ad', (ad' = ad.map (·.add (l * U.size τ)) ∨ (m = 0 ∧ ad' = ad)) → (ad = none → c = 0) → Rel C.E w ρ st (.sl τ ((xs.drop l).take m)) (.slice ad' m c) := by
      cases hx with
      | sl0 _ =>
        refine ⟨none, 0, rfl, by simp, fun l m c hmc hlm _ ad' had hc0 => ?_⟩
        have hm : m = 0 := by simp at hlm; omega
        subst hm
        obtain rfl := hc0 rfl
        have : ad' = none := by
          rcases had with h | ⟨_, h⟩ <;> simpa using h
        subst this
        exact .sl0 τ
      | sl _ _ b o cap f hst hcap hcc hl =>
        refine ⟨some ⟨b, o, none⟩, cap, rfl, hcap, fun l m c hmc hlm _ ad' had _ => ?_⟩
        rcases had with rfl | ⟨rfl, rfl⟩
        · simp only [Option.map_some, addr_add]
          exact sl_part (cap := cap) hst hmc hlm hcc hl _ (.inl rfl)
        · exact sl_part (cap := cap) hst hmc hlm hcc hl _ (.inr ⟨rfl, rfl⟩)
    obtain ⟨ad, cap, rfl, hcap, hpart⟩ := hv
    have had0 : ad = none → cap = 0 := fun e => by
      subst e
      cases hx
      rfl
    split at ho
    · rename_i kl l kh h
      simp only [Option.some.injEq, Prod.mk.injEq] at ho
      obtain ⟨rfl, rfl, rfl⟩ := ho
      obtain ⟨_, rfl, hv1⟩ := hlo _ rfl
      obtain ⟨_, rfl, hv2⟩ := hhi _ rfl
      cases hv1
      cases hv2
      have h0 : 0 ≤ l ∧ l ≤ h ∧ h ≤ xs.length := hc
      have hb1 := bound_ok (P := C.P) (w := w) (k := kh) (code := .sliceAcap) (show 0 ≤ h ∧ h ≤ cap by omega)
      have hb2 := bound_ok (P := C.P) (w := w) (k := kl) (code := .sliceB) (show 0 ≤ l ∧ l ≤ h.toNat by omega)
      refine ⟨rfl, .slice (if cap = l.toNat then ad else ad.map (·.add (l.toNat * U.size τ))) (h.toNat - l.toNat) (cap - l.toNat), ?_, ?_⟩
      · simp [Instr.slice, Instr.sliceBounds, run_underlying hu, hb1, hb2, sizeOf, typeInfo, hti, hts]
      · refine hpart l.toNat (h.toNat - l.toNat) (cap - l.toNat) (by omega) (by omega) (by omega) _ ?_ (fun e => by have := had0 e; omega)
        by_cases hcl : cap = l.toNat
        · rw [if_pos hcl]
          exact .inr ⟨by omega, rfl⟩
        · rw [if_neg hcl]
          exact .inl rfl
    · rename_i kl l
      simp only [Option.some.injEq, Prod.mk.injEq] at ho
      obtain ⟨rfl, rfl, rfl⟩ := ho
      obtain ⟨_, rfl, hv1⟩ := hlo _ rfl
      obtain rfl := hhi0 rfl
      cases hv1
      have h0 : 0 ≤ l ∧ l ≤ xs.length := hc
      have hb2 := bound_ok (P := C.P) (w := w) (k := kl) (code := .sliceB) (show 0 ≤ l ∧ l ≤ xs.length by omega)
      refine ⟨rfl, .slice (if cap = l.toNat then ad else ad.map (·.add (l.toNat * U.size τ))) (xs.length - l.toNat) (cap - l.toNat), ?_, ?_⟩
      · simp [Instr.slice, Instr.sliceBounds, run_underlying hu, hb2, sizeOf, typeInfo, hti, hts]
      · have := hpart l.toNat (xs.length - l.toNat) (cap - l.toNat) (by omega) (by omega) (by omega) (if cap = l.toNat then ad else ad.map (·.add (l.toNat * U.size τ))) (by
          by_cases hcl : cap = l.toNat
          · rw [if_pos hcl]
            exact .inr ⟨by omega, rfl⟩
          · rw [if_neg hcl]
            exact .inl rfl) (fun e => by have := had0 e; omega)
        have e : (xs.drop l.toNat).take (xs.length - l.toNat) = xs.drop l.toNat := List.take_of_length_le (by simp)
        rw [e] at this
        exact this
    · rename_i kh h
      simp only [Option.some.injEq, Prod.mk.injEq] at ho
      obtain ⟨rfl, rfl, rfl⟩ := ho
      obtain ⟨_, rfl, hv2⟩ := hhi _ rfl
      obtain rfl := hlo0 rfl
      cases hv2
      have h0 : 0 ≤ h ∧ h ≤ xs.length := hc
      have hb1 := bound_ok (P := C.P) (w := w) (k := kh) (code := .sliceAcap) (show 0 ≤ h ∧ h ≤ cap by omega)
      refine ⟨rfl, .slice (if cap = 0 then ad else ad.map (·.add (0 * U.size τ))) h.toNat cap, ?_, ?_⟩
      · simp [Instr.slice, Instr.sliceBounds, run_underlying hu, hb1, sizeOf, typeInfo, hti]
      · have := hpart 0 h.toNat cap (by omega) (by omega) (by omega) (if cap = 0 then ad else ad.map (·.add (0 * U.size τ))) (by
          by_cases hcl : cap = 0
          · rw [if_pos hcl]
            exact .inr ⟨by omega, rfl⟩
          · rw [if_neg hcl]
            exact .inl rfl) had0
        simpa using this
    · simp only [Option.some.injEq, Prod.mk.injEq] at ho
      obtain ⟨rfl, rfl, rfl⟩ := ho
      obtain rfl := hlo0 rfl
      obtain rfl := hhi0 rfl
      refine ⟨rfl, .slice (if cap = 0 then ad else ad.map (·.add (0 * U.size τ))) xs.length cap, ?_, ?_⟩
      · simp [Instr.slice, Instr.sliceBounds, run_underlying hu, sizeOf, typeInfo, hti]
      · have := hpart 0 xs.length cap hcap (by omega) (by omega) (if cap = 0 then ad else ad.map (·.add (0 * U.size τ))) (by
          by_cases hcl : cap = 0
          · rw [if_pos hcl]
            exact .inr ⟨by omega, rfl⟩
          · rw [if_neg hcl]
            exact .inl rfl) had0
        simpa using this
    · cases ho
  · cases ho
end
end Go.Vm

namespace Go.Vm
open Go.RowKit
set_option linter.unusedVariables false

section
variable {U : Univ} {n : Nat} {N : Nat → Prop} {w0 w w' : World} {ρ ρ' : Nat → Option (Nat × Value)} {s : ASt U} {a : Act}

theorem afill_length {look : Nat → Option (AObj U)} {place : Nat → Option (Nat × Nat)} : ∀ (ps : List (Nat × AVal U)) (l0 l1 : List (AVal U)), afill look place l0 ps = some l1 → l1.length = l0.length := by
  intro ps
  induction ps with
  | nil => intro l0 l1 h; simp only [afill, Option.some.injEq] at h; rw [h]
  | cons p ps ih =>
    intro l0 l1 h
    obtain ⟨i, x⟩ := p
    simp only [afill] at h
    split at h
    · cases h
    · obtain ⟨_, h⟩ := cond_some h
      rw [ih _ _ h, setCells_length]

theorem mapM_places {P : Program} : ∀ (l : List Field) (w : World) (r : List (Nat × Nat)), fieldPlaces P l = some r →
    (l.mapM fun f => do pure (f.offset, ← sizeOf f.type) : Sem (List (Nat × Nat))).run P w = .ok r w := by
  intro l
  induction l with
  | nil =>
    intro w r hr
    simp only [fieldPlaces, Option.some.injEq] at hr
    subst hr
    rfl
  | cons f l ih =>
    intro w r hr
    simp only [fieldPlaces] at hr
    split at hr
    · rename_i m r' hm hr'
      obtain rfl := Option.some.inj hr
      obtain ⟨i, hi, rfl⟩ := sizeT_spec hm
      have e := ih w r' hr'
      simp only [List.mapM_cons, Sem.run_bind, sizeOf, typeInfo, run_program, Result.andThen_ok, Sem.run_pure]
      simp only [hi, Sem.run_pure, Result.andThen_ok]
      simp only [sizeOf, typeInfo] at e
      simp only [e, Result.andThen_ok]
    · cases hr

theorem build_sound {P : Program} {E : Enc U} {st : Nat → Prop} {look : Nat → Option (AObj U)} (hst : ∀ (x : AVal U) v, Rel E w ρ st x v → storable look x = true → v.oneCell' = true) {t : TypeId} {pl : Nat → Option (Nat × Nat)} (hpl : placesOf P t = some pl)
    {z : List (AVal U)} (hz : zeroCells P t = some z) {parts : List (Nat × AVal U)} {parts' : Array (Nat × Value)} (hlen : parts.length = parts'.size)
    (hp : ∀ k (h : k < parts.length) (h' : k < parts'.toList.length), parts[k].1 = parts'.toList[k].1 ∧ Rel E w ρ st parts[k].2 parts'.toList[k].2) {l : List (AVal U)} (hl : afill look pl z parts = some l) :
    ∃ q, (Instr.build t parts').run P w = .ok q w ∧ Rel E w ρ st (.agg l) q := by
  obtain ⟨zv, hzr, hzsz, hzrel⟩ := zeroCells_sound (E := E) (w := w) (ρ := ρ) hz
  unfold placesOf at hpl
  split at hpl
  · rename_i fields hu
    split at hpl
    · rename_i r hr
      obtain rfl := Option.some.inj hpl
      have hma : (fields.mapM fun f => do pure (f.offset, ← sizeOf f.type) : Sem (Array (Nat × Nat))).run P w = .ok r.toArray w := by
        rw [Array.mapM_eq_mapM_toList]
        simp only [Sem.run_map, mapM_places _ w r hr, Result.andThen_ok]
      obtain ⟨c', hfill, hc's, hc'r⟩ := fill_sound (E := E) (w := w) (ρ := ρ) hst (place' := fun i => (r.toArray)[i]?) (fun i q hq => by simpa using hq) parts parts'.toList z l zv.cells (by simpa using hlen) hp hl hzsz (fun k hk => hzrel _ k hk)
      refine ⟨.agg c', ?_, .agg l c' hc's hc'r⟩
      simp only [Instr.build, Sem.run_bind, hzr, Result.andThen_ok, run_underlying hu, hma, hfill, Sem.run_pure]
    · cases hpl
  · rename_i len e hu
    split at hpl
    · rename_i m hm
      obtain rfl := Option.some.inj hpl
      obtain ⟨ti, hti, rfl⟩ := sizeT_spec hm
      obtain ⟨c', hfill, hc's, hc'r⟩ := fill_sound (E := E) (w := w) (ρ := ρ) hst (place' := fun i => some (i * ti.size, ti.size)) (fun i q hq => hq) parts parts'.toList z l zv.cells (by simpa using hlen) hp hl hzsz (fun k hk => hzrel _ k hk)
      refine ⟨.agg c', ?_, .agg l c' hc's hc'r⟩
      simp only [Instr.build, Sem.run_bind, hzr, Result.andThen_ok, run_underlying hu, sizeOf, typeInfo, run_program, hti, Sem.run_pure, hfill]
    · cases hpl
  · cases hpl
end
end Go.Vm

namespace Go.Vm
open Go.RowKit
set_option linter.unusedVariables false

section
variable {U : Univ} {n : Nat} {N : Nat → Prop} {w0 w w' : World} {ρ ρ' : Nat → Option (Nat × Value)} {s : ASt U} {a : Act}


theorem parts_rel {E : Enc U} (h : RR E n N w0 ρ s a w) (parts : Array (Nat × Operand)) : ∀ k (h1 : k < (parts.toList.map fun p => (p.1, s.eval p.2)).length) (h' : k < (parts.map fun (p : Nat × Operand) => (p.1, a.eval p.2)).toList.length),
    (parts.toList.map fun p => (p.1, s.eval p.2))[k].1 = (parts.map fun (p : Nat × Operand) => (p.1, a.eval p.2)).toList[k].1 ∧
      Rel E w ρ (Stab N ρ w) (parts.toList.map fun p => (p.1, s.eval p.2))[k].2 (parts.map fun (p : Nat × Operand) => (p.1, a.eval p.2)).toList[k].2 := by
  intro k h1 h'
  simp only [List.getElem_map, Array.getElem_toList, Array.getElem_map]
  exact ⟨trivial, h.eval _⟩

theorem aop_sound {C : Cfg U} (hs : SumAt C w0) (h : RR C.E n N w0 ρ s a w) {look : Nat → Option (AObj U)} (hlook : ∀ id ob, look id = some ob → s.objs id = some ob) {o : Oper}
    (hfresh : ∀ d, o.dst = some d → look d = none → s.objs d = none) (hd : ∀ d, o.dst = some d → d < n) {cs : List Prop} {r : AVal U} {ob : Option (Nat × AObj U)} (ho : aop C o s.eval look = some (cs, r, ob)) (hc : conj cs)
    {K : Act → World → Prop} {Q : Exit → Act → World → Prop} (hK : ∀ ρ' u w', RR C.E n N w0 ρ' ((s.putObj ob).put o.dst r) (a.put o.dst u) w' → K (a.put o.dst u) w') : o.wp C.P a w K Q := by
  have hstor : ∀ (x : AVal U) v, Rel C.E w ρ (Stab N ρ w) x v → storable look x = true → v.oneCell' = true := fun x v hx hsx => storable_sound h hlook hx hsx
  -- a value, the world as it was
  have same : ∀ {u : Value}, (execOp a.eval o).run C.P w = .ok (.value u) w → Rel C.E w ρ (Stab N ρ w) r u → ob = none → o.wp C.P a w K Q := fun hr hu hob => by
    subst hob
    exact wp_value hr (hK ρ _ w (h.put o.dst hd hu))
  obtain ⟨dst, op, ty, pos, after, guard⟩ := o
  unfold aop at ho
  try simp only at ho
  try simp only at hK
  try simp only at hd
  try simp only at hfresh
  cases op <;> (try simp only at ho) <;> (try (cases ho; done))
  case move x =>
    simp only [val, Option.some.injEq, Prod.mk.injEq] at ho
    obtain ⟨rfl, rfl, rfl⟩ := ho
    exact same rfl (h.eval x) rfl
  case assign x =>
    simp only [val, Option.some.injEq, Prod.mk.injEq] at ho
    obtain ⟨rfl, rfl, rfl⟩ := ho
    exact same rfl (h.eval x) rfl
  case pick c x y =>
    have hcr := h.eval c
    have hxr := h.eval x
    have hyr := h.eval y
    have hrun : ∀ b, a.eval c = .bool b → (execOp a.eval { dst := dst, op := .pick c x y, type := ty, pos := pos, after := after, guard := guard }).run C.P w = .ok (.value (if b then a.eval x else a.eval y)) w := fun b hb => by
      simp [execOp, hb, asBool]
    split at ho
    · rename_i b bx byv hc1 hx1 hy1
      simp only [val, Option.some.injEq, Prod.mk.injEq] at ho
      obtain ⟨rfl, rfl, rfl⟩ := ho
      rw [hc1] at hcr
      rw [hx1] at hxr
      rw [hy1] at hyr
      generalize hce : a.eval c = vc at hcr
      cases hcr
      refine same (hrun _ hce) ?_ rfl
      generalize a.eval x = vx at hxr
      generalize a.eval y = vy at hyr
      cases hxr
      cases hyr
      cases b <;> exact .bool _
    · rename_i b hc1 _
      rw [hc1] at hcr
      generalize hce : a.eval c = vc at hcr
      cases hcr
      cases b
      · simp only [val, Option.some.injEq, Prod.mk.injEq] at ho
        obtain ⟨rfl, rfl, rfl⟩ := ho
        exact same (hrun _ hce) hyr rfl
      · simp only [val, Option.some.injEq, Prod.mk.injEq] at ho
        obtain ⟨rfl, rfl, rfl⟩ := ho
        exact same (hrun _ hce) hxr rfl
    · cases ho
  case alloc t =>
    split at ho
    · rename_i d l hz
      split at ho
      · rename_i hl
        simp only [Option.some.injEq, Prod.mk.injEq] at ho
        obtain ⟨rfl, rfl, rfl⟩ := ho
        obtain ⟨w', ρ', hrun, hR, hp⟩ := alloc_sound h (hfresh d rfl hl) hz
        refine wp_value (u := .pointer (some ⟨w.heap.size, 0, none⟩)) (w' := w') ?_ (hK ρ' _ w' (hR.put (some d) hd (.ptr d 0 _ hp)))
        simp [execOp, hrun]
      · cases ho
    · cases ho
  case box t x =>
    split at ho
    · rename_i d
      split at ho
      · rename_i hl
        have hbb := cond_some ho
        clear ho
        obtain ⟨hb, ho⟩ := hbb
        simp only [Option.some.injEq, Prod.mk.injEq] at ho
        obtain ⟨rfl, rfl, rfl⟩ := ho
        obtain ⟨w', ρ', hrun, hR, hp⟩ := box_sound (P := C.P) h hlook (hfresh d rfl hl) t (h.eval x) hb
        refine wp_value (u := .pointer (some ⟨w.heap.size, 0, none⟩)) (w' := w') ?_ (hK ρ' _ w' (hR.put (some d) hd (.ptr d 0 _ hp)))
        show ((do pure (Next.value (← Instr.box t (a.eval x)))) : Sem Next).run C.P w = _
        simp only [Sem.run_bind, hrun, Result.andThen_ok, Sem.run_pure]
      · cases ho
    · cases ho
  case build t parts =>
    split at ho
    · rename_i pl z hpl hz
      split at ho
      · rename_i l hl
        simp only [val, Option.some.injEq, Prod.mk.injEq] at ho
        obtain ⟨rfl, rfl, rfl⟩ := ho
        obtain ⟨q, hrun, hq⟩ := build_sound (E := C.E) (w := w) (ρ := ρ) hstor hpl hz (parts' := parts.map fun (p : Nat × Operand) => (p.1, a.eval p.2)) (by simp) (parts_rel h parts) hl
        refine same ?_ hq rfl
        show ((do pure (Next.value (← Instr.build t (parts.map fun (p : Nat × Operand) => (p.1, a.eval p.2)))) : Sem Next)).run C.P w = _
        simp only [Sem.run_bind, hrun, Result.andThen_ok, Sem.run_pure]
      · cases ho
    · cases ho
  case buildSlice t len parts =>
    split at ho
    · rename_i d τ hτ
      split at ho
      · rename_i z hl hz
        have hbb := cond_some ho
        clear ho
        obtain ⟨hb, ho⟩ := hbb
        simp only [Bool.and_eq_true] at hb
        split at ho
        · rename_i l hfl
          split at ho
          · rename_i xs hxs
            simp only [Option.some.injEq, Prod.mk.injEq] at ho
            obtain ⟨rfl, rfl, rfl⟩ := ho
            obtain ⟨q, w', ρ', hrun, hR, hq⟩ := buildSlice_sound h hlook (hfresh d rfl hl) hτ hz (Nat.eq_of_beq_eq_true hb.1) (Nat.le_of_ble_eq_true hb.2) (parts' := parts.map fun (p : Nat × Operand) => (p.1, a.eval p.2)) (by simp) (parts_rel h parts) hfl hxs
            refine wp_value (u := q) (w' := w') ?_ (hK ρ' _ w' (hR.put (some d) hd hq))
            show ((do pure (Next.value (← Instr.buildSlice t len (parts.map fun (p : Nat × Operand) => (p.1, a.eval p.2)))) : Sem Next)).run C.P w = _
            simp only [Sem.run_bind, hrun, Result.andThen_ok, Sem.run_pure]
          · cases ho
        · cases ho
      · cases ho
    · cases ho
  case load t p =>
    split at ho
    · rename_i l off hb
      obtain ⟨b, o', f, hv, hat⟩ := behind_sound h hlook (h.eval p) hb
      unfold val? at ho
      split at ho
      · rename_i x hx
        simp only [Option.some.injEq, Prod.mk.injEq] at ho
        obtain ⟨rfl, rfl, rfl⟩ := ho
        obtain ⟨u, hrun, hu⟩ := loadVar_sound hx hat
        refine same ?_ hu rfl
        simp only [execOp, hv, Instr.loadAt, Instr.sureAddr, Sem.run_bind, Sem.run_pure, Result.andThen_ok, hrun]
      · cases ho
    · cases ho
  case store t p x =>
    split at ho
    · rename_i m hm
      have hbb := cond_some ho
      clear ho
      obtain ⟨hb, ho⟩ := hbb
      split at ho
      · rename_i ob' hob
        simp only [Option.some.injEq, Prod.mk.injEq] at ho
        obtain ⟨rfl, rfl, rfl⟩ := ho
        obtain ⟨id, obj⟩ := ob'
        obtain ⟨w', ρ', hrun, hR⟩ := storeAt_sound (P := C.P) h hlook (h.eval p) (h.eval x) hob hm (Nat.eq_of_beq_eq_true hb)
        refine wp_skip' (w' := w') ?_ (hK ρ' _ w' (hR.put dst hd (.raw _)))
        simp [execOp, hrun]
      · cases ho
    · cases ho
  case binOp op xt x y yt =>
    split at ho
    · rename_i cs' r' hab
      simp only [Option.some.injEq, Prod.mk.injEq] at ho
      obtain ⟨rfl, rfl, rfl⟩ := ho
      obtain ⟨q, hrun, hq⟩ := abinAt_sound (C := C) (t := xt) (X := x) (Y := y) (h.eval x) (h.eval y) hab hc
      refine same ?_ hq rfl
      simp only [execOp, Sem.run_bind] at hrun ⊢
      rw [hrun]
      rfl
    · cases ho
  case unOp op xt x =>
    unfold val? at ho
    split at ho
    · rename_i r' hab
      simp only [Option.some.injEq, Prod.mk.injEq] at ho
      obtain ⟨rfl, rfl, rfl⟩ := ho
      obtain ⟨q, hrun, hq⟩ := aun_sound (P := C.P) (h.eval x) hab
      refine same ?_ hq rfl
      simp [execOp, hrun]
    · cases ho
  case fieldAddr t x f =>
    split at ho
    · rename_i fo hfo
      obtain ⟨q, hrun, hq, hob⟩ := fieldAddr_sound (P := C.P) (look := look) hfo (h.eval x) ho (fun id g i off sz hst => by
        unfold storable at hst
        simp only at hst
        split at hst
        · rename_i t' g' xs hl
          obtain rfl := Nat.eq_of_beq_eq_true hst
          obtain ⟨u, _, h1, _⟩ := h.objs _ _ (hlook _ _ hl)
          exact ⟨u, h1⟩
        · cases hst)
      refine same ?_ hq hob
      simp [execOp, hrun]
    · cases ho
  case nilCheck x =>
    have hrun : ∀ ad, a.eval x = .pointer (some ad) → (execOp a.eval { dst := dst, op := .nilCheck x, type := ty, pos := pos, after := after, guard := guard }).run C.P w = .ok (.value (a.eval x)) w := fun ad hp => by
      simp [execOp, hp]
    have hxr := h.eval x
    split at ho
    · rename_i id off hxe
      simp only [val, Option.some.injEq, Prod.mk.injEq] at ho
      obtain ⟨rfl, rfl, rfl⟩ := ho
      rw [hxe] at hxr
      refine same ?_ hxr rfl
      generalize hfv : a.eval x = fv at hxr hrun ⊢
      cases hxr with
      | ptr _ _ b hb => exact hrun _ rfl
    · rename_i id g i off sz hxe
      obtain ⟨hst, ho⟩ := cond_some ho
      simp only [val, Option.some.injEq, Prod.mk.injEq] at ho
      obtain ⟨rfl, rfl, rfl⟩ := ho
      rw [hxe] at hxr
      refine same ?_ hxr rfl
      generalize hfv : a.eval x = fv at hxr hrun ⊢
      cases hxr with
      | eptr _ _ _ _ _ b n' cap hr hi => exact hrun _ rfl
      | eptrOld _ _ _ _ _ g' u v hr hg =>
        unfold storable at hst
        simp only at hst
        split at hst
        · rename_i t' g'' xs hl
          obtain rfl := Nat.eq_of_beq_eq_true hst
          obtain ⟨u', _, h1, _⟩ := h.objs _ _ (hlook _ _ hl)
          rw [h1] at hr
          simp only [Option.some.injEq, Prod.mk.injEq] at hr
          omega
        · cases hst
    · rename_i l off hxe
      simp only [val, Option.some.injEq, Prod.mk.injEq] at ho
      obtain ⟨rfl, rfl, rfl⟩ := ho
      rw [hxe] at hxr
      refine same ?_ hxr rfl
      generalize hfv : a.eval x = fv at hxr hrun ⊢
      cases hxr with
      | ref _ _ b o f hb hc hl => exact hrun _ rfl
    · cases ho
  case makeFunc fn first captured =>
    split at ho
    · rename_i f
      obtain ⟨h0, ho⟩ := cond_some ho
      simp only [val, Option.some.injEq, Prod.mk.injEq] at ho
      obtain ⟨rfl, rfl, rfl⟩ := ho
      have hf0 : first.size = 0 := Nat.eq_of_beq_eq_true h0
      have hfe : first = #[] := Array.eq_empty_of_size_eq_zero hf0
      subst hfe
      refine same (u := .func (.func f) #[] (captured.map a.eval)) ?_ (.fn f _ _ (by simp) (fun k hk => ?_)) rfl
      · simp [execOp, Instr.makeFunc]
      · have hk' : k < captured.size := by simpa using hk
        have := h.eval captured[k]
        simpa [hk'] using this
    · cases ho
  case field t x f =>
    split at ho
    · rename_i fields hu
      split at ho
      · rename_i fl l hfl hl
        unfold val? at ho
        split at ho
        · rename_i y hy
          simp only [Option.some.injEq, Prod.mk.injEq] at ho
          obtain ⟨rfl, rfl, rfl⟩ := ho
          have hx := h.eval x
          rw [hl] at hx
          generalize hve : a.eval x = vx at hx
          cases hx with
          | agg _ vs hn hr =>
            obtain ⟨q, hrun, hq⟩ := part_sound (w := w) hy hn hr
            refine same ?_ hq rfl
            simp [execOp, hve, Instr.field, run_underlying hu, hfl, asAgg, hrun]
        · cases ho
      · cases ho
    · cases ho
  case indexAddr t x ix =>
    split at ho
    · rename_i k i hix
      have hi := h.eval ix
      rw [hix] at hi
      generalize hve : a.eval ix = vi at hi
      cases hi
      obtain ⟨hob, q, hrun, hq⟩ := indexAddr_sound (k := k) h hlook (h.eval x) ho hc
      refine same ?_ hq hob
      simp [execOp, hve, hrun]
    · cases ho
  case index t x ix =>
    split at ho
    · rename_i k i hix
      have hi := h.eval ix
      rw [hix] at hi
      generalize hve : a.eval ix = vi at hi
      cases hi
      obtain ⟨hob, q, hrun, hq⟩ := index_sound (k := k) (h.eval x) ho hc
      refine same ?_ hq hob
      simp [execOp, hve, hrun]
    · cases ho
  case slice t x lo hi mx =>
    cases mx with
    | some m => cases ho
    | none =>
      have ho' : sliceOf C t (s.eval x) (lo.map s.eval) (hi.map s.eval) = some (cs, r, ob) := by
        cases lo <;> cases hi <;> exact ho
      obtain ⟨hob, q, hrun, hq⟩ := slice_sound (lo' := lo.map a.eval) (hi' := hi.map a.eval) (h.eval x)
        (fun y hy => by
          obtain ⟨z, hz, rfl⟩ := Option.map_eq_some_iff.1 hy
          exact ⟨a.eval z, by rw [hz]; rfl, h.eval z⟩) (fun e => by
          cases lo with
          | none => rfl
          | some q => cases e)
        (fun y hy => by
          obtain ⟨z, hz, rfl⟩ := Option.map_eq_some_iff.1 hy
          exact ⟨a.eval z, by rw [hz]; rfl, h.eval z⟩) (fun e => by
          cases hi with
          | none => rfl
          | some q => cases e) ho' hc
      refine same ?_ hq hob
      simp [execOp, hrun]
  case extract t i =>
    split at ho
    · rename_i l hl
      unfold val? at ho
      split at ho
      · rename_i y hy
        simp only [Option.some.injEq, Prod.mk.injEq] at ho
        obtain ⟨rfl, rfl, rfl⟩ := ho
        have hx := h.eval t
        rw [hl] at hx
        generalize hve : a.eval t = vx at hx
        cases hx with
        | tup _ vs hn hr =>
          have hlt : i < l.length := (List.getElem?_eq_some_iff.1 hy).1
          have hyy := (List.getElem?_eq_some_iff.1 hy).2
          have := hr i hlt
          rw [hyy] at this
          refine same (u := vs.getD i undef) ?_ this rfl
          have h2 : i < vs.size := by omega
          simp [execOp, hve, Instr.extract, h2]
      · cases ho
    · cases ho
  case call c =>
    obtain ⟨callee, args, argTypes⟩ := c
    simp only at ho
    split at ho
    · -- len
      split at ho
      · rename_i x t hargs hts
        split at ho
        · rename_i m hm
          simp only [val, Option.some.injEq, Prod.mk.injEq] at ho
          obtain ⟨rfl, rfl, rfl⟩ := ho
          have hargs' : args = #[x] := by rw [← Array.toArray_toList (xs := args), hargs]
          have hts' : argTypes = #[t] := by rw [← Array.toArray_toList (xs := argTypes), hts]
          subst hargs'
          subst hts'
          have hx := h.eval x
          have hrun : (Builtin.len_ #[t] ty #[a.eval x]).run C.P w = .ok (.int .i64 m) w := by
            unfold alen at hm
            split at hm
            · rename_i b hu hxe
              rw [hxe] at hx
              generalize a.eval x = vx at hx
              cases hx
              obtain rfl := Option.some.inj hm
              simp [Builtin.len_, run_underlying hu, goInt]
            · rename_i e τ xs hu hxe
              rw [hxe] at hx
              generalize a.eval x = vx at hx
              obtain rfl := Option.some.inj hm
              cases hx
              · simp [Builtin.len_, run_underlying hu, goInt]
              · simp [Builtin.len_, run_underlying hu, goInt]
            · rename_i e hu hxe
              rw [hxe] at hx
              generalize a.eval x = vx at hx
              obtain rfl := Option.some.inj hm
              cases hx
              simp [Builtin.len_, run_underlying hu, goInt]
            · rename_i e id g hu hxe
              split at hm
              · rename_i τ g' xs hl
                have hbb := cond_some hm
                clear hm
                obtain ⟨hb, hm⟩ := hbb
                obtain rfl := Option.some.inj hm
                obtain rfl := Nat.eq_of_beq_eq_true hb
                rw [hxe] at hx
                obtain ⟨u, cs', h1, hp, h2, h3⟩ := h.objs _ _ (hlook _ _ hl)
                generalize a.eval x = vx at hx
                cases hx with
                | osl _ _ u' hr' hp' =>
                  rw [h1] at hr'
                  simp only [Option.some.injEq, Prod.mk.injEq, true_and] at hr'
                  subst hr'
                  rcases h2.2 with ⟨rfl, h0⟩ | ⟨gb, cap, cur, rfl, _⟩
                  · simp [Builtin.len_, run_underlying hu, goInt, h0]
                  · simp [Builtin.len_, run_underlying hu, goInt]
                | oslOld _ _ g' u' v hr' hg =>
                  rw [h1] at hr'
                  simp only [Option.some.injEq, Prod.mk.injEq] at hr'
                  omega
              · cases hm
            · rename_i k e hu
              obtain rfl := Option.some.inj hm
              simp [Builtin.len_, run_underlying hu, goInt]
            · cases hm
          refine same ?_ (.int _ _) rfl
          simp [execOp, resolve, invoke, builtin, hrun]
        · cases ho
      · cases ho
    · -- min
      unfold val? at ho
      split at ho
      · rename_i y hy
        simp only [Option.some.injEq, Prod.mk.injEq] at ho
        obtain ⟨rfl, rfl, rfl⟩ := ho
        unfold minI at hy
        split at hy
        · rename_i k x k' y' hl
          split at hy
          · rename_i hk
            subst hk
            obtain rfl := Option.some.inj hy
            obtain ⟨p, q, hpq⟩ : ∃ p q, args.toList = [p, q] := by
              match hq : args.toList with
              | [p, q] => exact ⟨p, q, rfl⟩
              | [] => rw [hq] at hl; simp at hl
              | [_] => rw [hq] at hl; simp at hl
              | _ :: _ :: _ :: _ => rw [hq] at hl; simp at hl
            have hargs' : args = #[p, q] := by rw [← Array.toArray_toList (xs := args), hpq]
            subst hargs'
            simp only [List.map_cons, List.map_nil, List.cons.injEq, and_true] at hl
            have hp := h.eval p
            have hq := h.eval q
            rw [hl.1] at hp
            rw [hl.2] at hq
            generalize hpe : a.eval p = vp at hp
            generalize hqe : a.eval q = vq at hq
            cases hp
            cases hq
            refine same (u := .int k (if y' < x then y' else x)) ?_ (.int _ _) rfl
            simp [execOp, resolve, invoke, builtin, Builtin.min_, Builtin.min2, hpe, hqe]
          · cases hy
        · cases hy
      · cases ho
    · -- max
      unfold val? at ho
      split at ho
      · rename_i y hy
        simp only [Option.some.injEq, Prod.mk.injEq] at ho
        obtain ⟨rfl, rfl, rfl⟩ := ho
        unfold maxI at hy
        split at hy
        · rename_i k x k' y' hl
          split at hy
          · rename_i hk
            subst hk
            obtain rfl := Option.some.inj hy
            obtain ⟨p, q, hpq⟩ : ∃ p q, args.toList = [p, q] := by
              match hq : args.toList with
              | [p, q] => exact ⟨p, q, rfl⟩
              | [] => rw [hq] at hl; simp at hl
              | [_] => rw [hq] at hl; simp at hl
              | _ :: _ :: _ :: _ => rw [hq] at hl; simp at hl
            have hargs' : args = #[p, q] := by rw [← Array.toArray_toList (xs := args), hpq]
            subst hargs'
            simp only [List.map_cons, List.map_nil, List.cons.injEq, and_true] at hl
            have hp := h.eval p
            have hq := h.eval q
            rw [hl.1] at hp
            rw [hl.2] at hq
            generalize hpe : a.eval p = vp at hp
            generalize hqe : a.eval q = vq at hq
            cases hp
            cases hq
            refine same (u := .int k (if x < y' then y' else x)) ?_ (.int _ _) rfl
            simp [execOp, resolve, invoke, builtin, Builtin.max_, Builtin.max2, hpe, hqe]
          · cases hy
        · cases hy
      · cases ho
    · -- append
      split at ho
      · rename_i d x y hargs
        have hargs' : args = #[x, y] := by rw [← Array.toArray_toList (xs := args), hargs]
        subst hargs'
        obtain ⟨q, w', ρ', hrun, hR, hq⟩ := aappend_sound (ty := ty) h hlook (hfresh d rfl) (h.eval x) (h.eval y) ho hc
        refine wp_value (u := q) (w' := w') ?_ (hK ρ' _ w' (hR.put (some d) hd hq))
        simp [execOp, resolve, invoke, builtin, hrun]
      · cases ho
    · -- a function
      rename_i x
      split at ho
      · rename_i f caps hxe
        have hxr := h.eval x
        rw [hxe] at hxr
        generalize hfv : a.eval x = fv at hxr
        cases hxr with
        | fn _ _ vs hvn hvl =>
        have hargsz : (args.map a.eval ++ vs).size = (args.toList.map s.eval ++ caps).length := by simp [hvn]
        obtain ⟨hcall, hcalls⟩ := callOf_sound hs h hlook (dst := dst) hfresh (args := args.map a.eval ++ vs) hargsz (fun k hk => by
          by_cases hk' : k < args.size
          · have e : (args.map a.eval ++ vs).getD k undef = a.eval args[k] := by simp [Array.getElem?_append, hk']
            rw [e]
            rw [List.getElem_append_left (by simpa using hk')]
            simp only [List.getElem_map, Array.getElem_toList]
            exact h.eval _
          · have hk2 : k - args.size < caps.length := by simp at hk; omega
            have e : (args.map a.eval ++ vs).getD k undef = vs.getD (k - args.size) undef := by
              have : k - args.size < vs.size := by omega
              simp [Array.getElem?_append, hk']
            rw [e, List.getElem_append_right (by simp; omega)]
            have := hvl (k - args.size) hk2
            simpa using this) ho hc
        refine wp_enter (f := f) (args := args.map a.eval ++ vs) ?_ (hcalls.mono ?_)
        · have e : #[] ++ args.map a.eval = args.map a.eval := by simp
          simp [execOp, resolve, hfv, Deferred.ofValue, invoke, hcall]
        · rintro e w' ⟨v, rfl, ρ', hR, hv⟩
          exact ⟨v, rfl, hK ρ' v w' (hR.put dst hd hv)⟩
      · cases ho
    · cases ho
end
end Go.Vm
