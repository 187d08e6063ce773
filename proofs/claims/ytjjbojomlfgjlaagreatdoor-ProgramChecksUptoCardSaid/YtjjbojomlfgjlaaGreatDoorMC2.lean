/- Texts of this proof, one behind another: An interpreter of the model's code over abstract values, and that it is right: part 3. Con. Conditions: none. -/
import Derived.Test.YtjjbojomlfgjlaaGreatDoorMC1
import Derived.ChangeKeysEq
namespace Go.Vm
open Go.RowKit
set_option linter.unusedVariables false
section
variable {U:dH} {n:Nat} {N:Nat->Prop} {w0:Fr} {w w':World} {ρ ρ':Own} {s:ASt U} {a:Act}
theorem hJ {P:Program} {o:Oper} {K:Act->World->Prop} {Q:Exit->Act->World->Prop} {u:Value} (hr:(execOp a.eval o).run P w=.ok (.value u) w') (hk:K (a.put o.dst u) w'):o.wp P a w K Q:=by
 unfold Oper.wp;rw[hr];exact hk
theorem aHz {P:Program} {o:Oper} {K:Act->World->Prop} {Q:Exit->Act->World->Prop} (hr:(execOp a.eval o).run P w=.ok .skip w') (hk:K (a.put o.dst undef) w'):o.wp P a w K Q:=by
 unfold Oper.wp;rw[hr];exact hk
theorem aIA {P:Program} {o:Oper} {K:Act->World->Prop} {Q:Exit->Act->World->Prop} {f:FuncId} {args:Array Value} (hr:(execOp a.eval o).run P w=.ok (.enter f args) w)
  (hk:Calls P f args w fun e w'=>∃v,e=.returned v/\K (a.put o.dst v) w'):o.wp P a w K Q:=by
 unfold Oper.wp;rw[hr];exact hk.mono fun e w' ⟨v,he,hv⟩=>by subst he;exact hv
theorem bLZ {P:Program} {op:BinOp} {t:TypeId} {x y:aB U} {u v:Value} {X Y:Operand} {E:Enc U} {st:Nat->Prop} (hx:Rel E w ρ st x u) (hy:Rel E w ρ st y v)
  {cs:List Prop} {r:aB U} (ho:aMN op x y=some (cs,r)) (hc:dE cs):
  ∃q,(do eqGuard op t X Y u v;binOp op t u v:Sem Value).run P w=.ok q w/\Rel E w ρ st r q:=by
 unfold aMN at ho;split at ho
 ·rename_i k a k' b;cases hx;cases hy;have hg:(eqGuard op t X Y (.int k a) (.int k' b)).run P w=.ok () w:=by
   unfold eqGuard;split<;>rfl
  have hb:∀q,(binOp op t (.int k a) (.int k' b)).run P w=.ok q w->(do eqGuard op t X Y (.int k a) (.int k' b);binOp op t (.int k a) (.int k' b):Sem Value).run P w=.ok q w:=fun q hq=>by
   simp only[Sem.run_bind,hg,Result.andThen_ok,hq]
  cases op
  case shl=>
   simp only[Option.some.injEq,Prod.mk.injEq] at ho;obtain⟨rfl,rfl⟩:=ho;have h0:¬b<0:=by
    have:0<=b:=hc;omega
   exact⟨_,hb _ (by simp[binOp,Op.shift,h0]),.int _ _⟩
  case shr=>
   simp only[Option.some.injEq,Prod.mk.injEq] at ho;obtain⟨rfl,rfl⟩:=ho;have h0:¬b<0:=by
    have:0<=b:=hc;omega
   exact⟨_,hb _ (by simp[binOp,Op.shift,h0]),.int _ _⟩
  all_goals
   simp only at ho;split at ho
   rotate_left
   ·cases ho
   rename_i hk;subst hk;simp only[Option.some.injEq,Prod.mk.injEq,reduceCtorEq] at ho
  all_goals obtain⟨rfl,rfl⟩:=ho
  case add.isTrue=>exact⟨_,hb _ (by simp[binOp,Op.intArith]),.int _ _⟩
  case sub.isTrue=>exact⟨_,hb _ (by simp[binOp,Op.intArith]),.int _ _⟩
  case mul.isTrue=>exact⟨_,hb _ (by simp[binOp,Op.intArith]),.int _ _⟩
  case quo.isTrue=>
   have h0:b≠0:=hc;exact⟨_,hb _ (by simp[binOp,Op.intDiv,h0]),.int _ _⟩
  case rem.isTrue=>
   have h0:b≠0:=hc;exact⟨_,hb _ (by simp[binOp,Op.intDiv,h0]),.int _ _⟩
  case and.isTrue=>exact⟨_,hb _ (by simp[binOp,Op.intBits,gP]),.int _ _⟩
  case eql.isTrue=>exact⟨_,hb _ (by simp[binOp,Op.intCmp]),.bool _⟩
  case neq.isTrue=>exact⟨_,hb _ (by simp[binOp,Op.intCmp]),.bool _⟩
  case lss.isTrue=>exact⟨_,hb _ (by simp[binOp,Op.intCmp]),.bool _⟩
  case leq.isTrue=>exact⟨_,hb _ (by simp[binOp,Op.intCmp]),.bool _⟩
  case gtr.isTrue=>exact⟨_,hb _ (by simp[binOp,Op.intCmp]),.bool _⟩
  case geq.isTrue=>exact⟨_,hb _ (by simp[binOp,Op.intCmp]),.bool _⟩
 ·rename_i a b;cases hx;cases hy;have hg:(eqGuard op t X Y (.string a) (.string b)).run P w=.ok () w:=by
   unfold eqGuard;split<;>rfl
  have hb:∀q,(binOp op t (.string a) (.string b)).run P w=.ok q w->(do eqGuard op t X Y (.string a) (.string b);binOp op t (.string a) (.string b):Sem Value).run P w=.ok q w:=fun q hq=>by
   simp only[Sem.run_bind,hg,Result.andThen_ok,hq]
  cases op<;>simp only[Option.some.injEq,Prod.mk.injEq,reduceCtorEq] at ho<;>obtain⟨rfl,rfl⟩:=ho
  case add=>
   have h0:(a.size:Int)+b.size<=9223372036854775807:=hc;exact⟨_,hb _ (by simp[binOp,Op.stringOp,h0]),.str _⟩
  case eql=>exact⟨_,hb _ (by simp[binOp,Op.stringOp,beq_toListBytes]),.bool _⟩
  case neq=>exact⟨_,hb _ (by simp[binOp,Op.stringOp,bne,beq_toListBytes]),.bool _⟩
 ·cases ho
theorem bLV {C:Cfg U} {E:Enc U} {st:Nat->Prop} {d:Nat} {eq:TypeId->aB U->aB U->Option Bool}
  (heq:∀t x y u v b,eq t x y=some b->Rel E w ρ st x u->Rel E w ρ st y v->(Op.equalIn d t u v).run C.P w=.ok b w) {xs ys:List (aB U)} {us vs:Array Value}
  (hu:us.size=xs.length) (hxs:∀k (h:k<xs.length),Rel E w ρ st xs[k] (us.getD k undef)) (hv:vs.size=ys.length) (hys:∀k (h:k<ys.length),Rel E w ρ st ys[k] (vs.getD k undef)):
  ∀(fs:List Field) (b:Bool),fs.all (fun f=>f.name != "_")=true->aDG C.P eq xs ys fs=some b->(Op.eqFields d us vs fs).run C.P w=.ok b w:=by
 intro fs
 induction fs with
 |nil=>
  intro b _ h;simp only[aDG,Option.some.injEq] at h;subst h;rfl
 |cons f fs ih=>
  intro b hn h;simp only[List.all_cons,Bool.and_eq_true,bne_iff_ne,ne_eq] at hn;simp only[aDG] at h;split at h
  ·rename_i a c ha hc;split at h
   ·rename_i p q hp hq;obtain rfl:=Option.some.inj h;obtain⟨u,qC,hu2⟩:=u7 (P:=C.P) ha hu hxs;obtain⟨v,gN,iR⟩:=u7 (P:=C.P) hc hv hys;have he:=heq _ _ _ _ _ _ hp hu2 iR;have hr:=ih q hn.2 hq;simp only[Op.eqFields,ne_eq,hn.1,not_false_eq_true,if_true,Sem.run_bind,qC,gN,he,Result.andThen_ok];cases p
    ·simp
    ·simpa using hr
   ·cases h
  ·cases h
theorem bLU {C:Cfg U} {E:Enc U} {st:Nat->Prop} {d:Nat} {eq:TypeId->aB U->aB U->Option Bool}
  (heq:∀t x y u v b,eq t x y=some b->Rel E w ρ st x u->Rel E w ρ st y v->(Op.equalIn d t u v).run C.P w=.ok b w) {xs ys:List (aB U)} {us vs:Array Value}
  (hu:us.size=xs.length) (hxs:∀k (h:k<xs.length),Rel E w ρ st xs[k] (us.getD k undef)) (hv:vs.size=ys.length) (hys:∀k (h:k<ys.length),Rel E w ρ st ys[k] (vs.getD k undef)) {e n:Nat}:
  ∀(is:List Nat) (b:Bool),aDF C.P eq e n xs ys is=some b->(Op.eqItems d e n us vs is).run C.P w=.ok b w:=by
 intro is
 induction is with
 |nil=>
  intro b h;simp only[aDF,Option.some.injEq] at h;subst h;rfl
 |cons i is ih=>
  intro b h;simp only[aDF] at h;split at h
  ·rename_i a c ha hc;split at h
   ·rename_i p q hp hq;obtain rfl:=Option.some.inj h;obtain⟨u,qC,hu2⟩:=u7 (P:=C.P) ha hu hxs;obtain⟨v,gN,iR⟩:=u7 (P:=C.P) hc hv hys;have he:=heq _ _ _ _ _ _ hp hu2 iR;have hr:=ih q hq;simp only[Op.eqItems,Sem.run_bind,qC,gN,he,Result.andThen_ok];cases p
    ·simp
    ·simpa using hr
   ·cases h
  ·cases h
theorem aWT {C:Cfg U} {E:Enc U} {st:Nat->Prop} (d:Nat):∀(m:Nat) (t:TypeId) (x y:aB U) (u v:Value) (b:Bool),aeq C m t x y=some b->Rel E w ρ st x u->Rel E w ρ st y v->(Op.equalIn (m+d) t u v).run C.P w=.ok b w:=by
 intro m
 induction m with
 |zero=>intro t x y u v b h;cases h
 |succ m ih=>
  intro t x y u v b h hx hy;rw[Nat.succ_add];simp only[aeq] at h;split at h
  ·cases hx;cases hy;split at h
   ·rename_i hu;obtain rfl:=Option.some.inj h;exact run_equalIn_bool w _ t _ _ hu
   ·cases h
  ·cases hx;cases hy;split at h
   ·rename_i hu;split at h
    ·rename_i hk;subst hk;obtain rfl:=Option.some.inj h;exact run_equalIn_int w _ t _ _ _ _ hu
    ·cases h
   ·cases h
  ·cases hx;cases hy;split at h
   ·rename_i hu;obtain rfl:=Option.some.inj h;rw[run_equalIn_string w _ t _ _ hu,beq_toListBytes]
   ·cases h
  ·cases hx with
   |agg _ us hus hxs=>
    cases hy with
    |agg _ vs hvs hys=>
     split at h
     ·rename_i fields hu;have hf:C.P.fieldsOf t=fields:=by simp[Program.fieldsOf,hu]
      cases hpl:C.plain t with
      |false=>rw[hpl] at h;cases h
      |true=>
       rw[hpl] at h;obtain⟨h1,h2,h3⟩:=C.plainOK t hpl;rw[run_equalIn_struct w _ t us vs (by rw[hf];exact hu) h1];rw[hf] at h3 ⊢;exact bLV (fun t x y u v b=>ih t x y u v b) hus hxs hvs hys _ _ h3 h
     ·rename_i len e hu;split at h
      ·rename_i n hn;obtain⟨i,hi,rfl⟩:=kK hn;rw[run_equalIn_array w _ us vs hu hi];have hc:C.P.cellsOf e=i.size:=by simp[Program.cellsOf,hi]
       rw[hc];exact bLU (fun t x y u v b=>ih t x y u v b) hus hxs hvs hys _ _ h
      ·cases h
     ·cases h
  ·cases h
theorem bL0 {C:Cfg U} {op:BinOp} {t:TypeId} {x y:aB U} {u v:Value} {X Y:Operand} {E:Enc U} {st:Nat->Prop} (hx:Rel E w ρ st x u) (hy:Rel E w ρ st y v)
  {cs:List Prop} {r:aB U} (ho:aMM C op t x y=some (cs,r)) (hc:dE cs):
  ∃q,(do eqGuard op t X Y u v;binOp op t u v:Sem Value).run C.P w=.ok q w/\Rel E w ρ st r q:=by
 unfold aMM at ho;split at ho
 ·rename_i xs ys;cases hpl:C.plain t with
  |false=>rw[hpl] at ho;cases ho
  |true=>
   rw[hpl] at ho;obtain⟨h1,h2,h3⟩:=C.plainOK t hpl;have main:∀b,aeq C 40 t (.agg xs) (.agg ys)=some b->(Op.equalIn 10000 t u v).run C.P w=.ok b w:=fun b hb=>aWT 9960 40 _ _ _ _ _ _ hb hx hy
   cases hx;cases hy;rename_i us hus hxs vs hvs hys;have hg:(eqGuard op t X Y (.agg us) (.agg vs)).run C.P w=.ok () w:=run_eqGuard_agg w op t X Y us vs h2;simp only[cond_true] at ho;split at ho
   ·rename_i b hb;simp only[Option.some.injEq,Prod.mk.injEq] at ho;obtain⟨rfl,rfl⟩:=ho;refine⟨.bool b,?_,.bool _⟩;simp only[Sem.run_bind,hg,Result.andThen_ok,run_eql_struct,main _ hb]
   ·rename_i b hb;simp only[Option.some.injEq,Prod.mk.injEq] at ho;obtain⟨rfl,rfl⟩:=ho;refine⟨.bool !b,?_,.bool _⟩;simp only[Sem.run_bind,hg,Result.andThen_ok,run_neq_struct,main _ hb]
   ·cases ho
 ·rename_i a b;have main:∀q,aeq C 1 t (.bool a) (.bool b)=some q->(Op.equalIn 10000 t u v).run C.P w=.ok q w:=fun q hb=>aWT 9999 1 _ _ _ _ _ _ hb hx hy
  cases hx;cases hy;have hg:(eqGuard op t X Y (.bool a) (.bool b)).run C.P w=.ok () w:=by
   unfold eqGuard;split<;>rfl
  split at ho
  ·rename_i q hb;simp only[Option.some.injEq,Prod.mk.injEq] at ho;obtain⟨rfl,rfl⟩:=ho;refine⟨.bool q,?_,.bool _⟩;simp only[Sem.run_bind,hg,Result.andThen_ok,binOp,Op.equal,Op.maxDepth,main _ hb];rfl
  ·rename_i q hb;simp only[Option.some.injEq,Prod.mk.injEq] at ho;obtain⟨rfl,rfl⟩:=ho;refine⟨.bool !q,?_,.bool _⟩;simp only[Sem.run_bind,hg,Result.andThen_ok,binOp,Op.equal,Op.maxDepth,main _ hb];rfl
  ·cases ho
 ·exact bLZ hx hy ho hc
theorem bLS {P:Program} {op:BinOp} {t:TypeId} {x r:aB U} {y:Operand} {a:Act} {u:Value} {X:Operand} {E:Enc U} {st:Nat->Prop} (hx:Rel E w ρ st x u) (ho:aMH P op t x y=some r):
  ∃q,(do eqGuard op t X y u (a.eval y);binOp op t u (a.eval y):Sem Value).run P w=.ok q w/\Rel E w ρ st r q:=by
 unfold aMH at ho;split at ho
 ·rename_i b hb;have hu0:(u=.nilIface/\b=true)\/∃p q,u=.iface p q/\b=false:=by
   unfold aTU at hb;split at hb
   ·cases hb;cases hx with
    |ifc0=>exact .inl ⟨rfl,rfl⟩
    |ifc1 p q=>exact .inr ⟨p,q,rfl,rfl⟩
   ·cases hb;cases hx;exact .inl ⟨rfl,rfl⟩
   ·cases hb;cases hx;exact .inr ⟨_,_,rfl,rfl⟩
   ·cases hb
  split at ho
  ·rename_i ms hu;have e1:∀d:Nat,∀v:Value,(v=.nilIface->b=true)->(v≠ .nilIface->b=false/\∃p q,v=.iface p q)->(Op.equalIn (d+1) t v .nilIface).run P w=.ok b w:=fun d v h1 h2=>by
    by_cases hv:v=.nilIface
    ·subst hv;simp[Op.equalIn,run_underlying hu,h1 rfl]
    ·obtain⟨hb,p,q,rfl⟩:=h2 hv;simp[Op.equalIn,run_underlying hu,hb]
   have e2:(Op.equalIn 10000 t u .nilIface).run P w=.ok b w:=by
    rcases hu0 with ⟨rfl,rfl⟩|⟨p,q,rfl,rfl⟩
    ·exact e1 9999 _ (fun _=>rfl) (fun h=>absurd rfl h)
    ·exact e1 9999 _ (fun h=>by cases h) (fun _=>⟨rfl,_,_,rfl⟩)
   have hg:(eqGuard op t X (.const .nilIface) u .nilIface).run P w=.ok () w:=by
    rcases hu0 with ⟨rfl,rfl⟩|⟨p,q,rfl,rfl⟩
    ·unfold eqGuard;cases op<;>first|rfl| (simp only[];cases X<;>rfl)
    ·unfold eqGuard;cases op<;>rfl
   split at ho
   ·obtain rfl:=Option.some.inj ho;refine⟨.bool b,?_,.bool _⟩;show (do eqGuard .eql t X (.const .nilIface) u .nilIface;binOp .eql t u .nilIface:Sem Value).run P w=_;rw[Sem.run_bind,hg,Result.andThen_ok];rcases hu0 with ⟨rfl,rfl⟩|⟨p,q,rfl,rfl⟩<;>simp[binOp,Op.equal,Op.maxDepth,e2]
   ·obtain rfl:=Option.some.inj ho;refine⟨.bool !b,?_,.bool _⟩;show (do eqGuard .neq t X (.const .nilIface) u .nilIface;binOp .neq t u .nilIface:Sem Value).run P w=_;rw[Sem.run_bind,hg,Result.andThen_ok];rcases hu0 with ⟨rfl,rfl⟩|⟨p,q,rfl,rfl⟩<;>simp[binOp,Op.equal,Op.maxDepth,e2]
   ·cases ho
  ·cases ho
 ·cases ho
theorem bKv {P:Program} {op:UnOp} {x r:aB U} {u:Value} {E:Enc U} {st:Nat->Prop} (hx:Rel E w ρ st x u) (ho:aun op x=some r):
  ∃q,(Op.unary op u).run P w=.ok q w/\Rel E w ρ st r q:=by
 unfold aun at ho;split at ho
 ·cases hx;split at ho
  ·obtain rfl:=Option.some.inj ho;exact⟨_,by simp[Op.unary,Op.intArith],.int _ _⟩
  ·cases ho
 ·cases hx;split at ho
  ·obtain rfl:=Option.some.inj ho;exact⟨_,by simp[Op.unary],.bool _⟩
  ·cases ho
 ·cases ho
theorem bGy {P:Program} {t:TypeId} {f fo:Nat} (h:aC1 P t f=some fo):∃fields fl i,P.underlying t=some (.struct fields)/\fields[f]?=some fl/\P.info? fl.type=some i/\i.size≠0/\fl.offset=fo:=by
 unfold aC1 at h;split at h
 ·rename_i fields hu;split at h
  ·rename_i fl hf;split at h
   ·rename_i m hm;obtain⟨i,hi,his⟩:=kK hm;exact⟨fields,fl,i,hu,hf,hi,by omega,Option.some.inj h⟩
   ·cases h
  ·cases h
 ·cases h
theorem addr_add (b o k:Nat):(⟨b,o,none⟩:Addr).add k=⟨b,o+k,none⟩:=Addr.qL b o k
theorem aGJ {P:Program} {t:TypeId} {f fo b o:Nat} (h:aC1 P t f=some fo):(Instr.fieldAt t (.pointer (some ⟨b,o,none⟩)) f).run P w=.ok (.pointer (some ⟨b,o+fo,none⟩)) w:=by
 obtain⟨fields,fl,i,hu,hf,hi,hs,rfl⟩:=bGy h;simp only[Instr.fieldAt,Sem.run_bind,run_underlying hu,Result.andThen_ok,hf,Instr.sureAddr,Sem.run_pure,fieldPlace,sizeOf,typeInfo,run_program,hi,if_neg hs,addr_add]
theorem bGz {P:Program} {E:Enc U} {st:Nat->Prop} {look:Nat->Option (aV U)} {t:TypeId} {f fo:Nat} (h:aC1 P t f=some fo) {x r:aB U} {v:Value} (hx:Rel E w ρ st x v)
  {cs:List Prop} {ob:Option (Nat×aV U)}
  (hr:aEz look fo x=some (cs,r,ob)) (hcur:∀id g i off sz,storable look (.eptr id g i off sz)=true->∃u,ρ id=some (g,u))
  (hcur2:∀id i g j off sz,storable look (.meptr id i g j off sz)=true->∀g' u,ρ (.mem id i)=some (g',u)->g'=g):
  ∃q,(Instr.fieldAt t v f).run P w=.ok q w/\Rel E w ρ st r q/\ob=none:=by
 unfold aEz at hr;cases hx with
 |ptr id off b hb=>
  simp only[val,Option.some.injEq,Prod.mk.injEq] at hr;obtain⟨_,rfl,rfl⟩:=hr;exact⟨_,aGJ h,.ptr id _ b hb,rfl⟩
 |eptr id g i off sz b n' cap hb hi=>
  have hr':=(bI hr).2;simp only[val,Option.some.injEq,Prod.mk.injEq] at hr';obtain⟨_,rfl,rfl⟩:=hr';refine⟨_,aGJ h,?_,rfl⟩;rw[Nat.add_assoc];exact .eptr id g i _ sz b n' cap hb hi
 |eptrOld id g i off sz g' u v hb hg=>
  obtain⟨u',hu'⟩:=hcur _ _ _ _ _ (bI hr).1;rw[hb] at hu';simp only[Option.some.injEq,Prod.mk.injEq] at hu';omega
 |ref l off b o f' hst hc hl=>
  simp only[val,Option.some.injEq,Prod.mk.injEq] at hr;obtain⟨_,rfl,rfl⟩:=hr;refine⟨_,aGJ h,?_,rfl⟩;rw[Nat.add_assoc];exact .ref l _ b o f' hst hc hl
 |meptr id i g j off sz b n' cap hb hi=>
  have hr':=(bI hr).2;simp only[val,Option.some.injEq,Prod.mk.injEq] at hr';obtain⟨_,rfl,rfl⟩:=hr';refine⟨_,aGJ h,?_,rfl⟩;rw[Nat.add_assoc];exact .meptr id i g j _ sz b n' cap hb hi
 |meptrOld id i g j off sz g' u v hb hg=>
  have:=hcur2 _ _ _ _ _ _ (bI hr).1 _ _ hb;omega
 |_=>simp at hr
end
end Go.Vm
namespace Go.Vm
open Go.RowKit
set_option linter.unusedVariables false
section
variable {U:dH} {n:Nat} {N:Nat->Prop} {w0:Fr} {w w':World} {ρ ρ':Own} {s:ASt U} {a:Act}
theorem oF {P:Program} {e m:Nat} (h:(match fU P e with|some n=>Nat.beq n m|none=>false)=true):∃i,P.info? e=some i/\i.size=m:=by
 split at h
 ·rename_i n hn;obtain⟨i,hi,his⟩:=kK hn;exact⟨i,hi,by rw[his];exact Nat.eq_of_beq_eq_true h⟩
 ·cases h
theorem toNat_lt {i:Int} {n:Nat} (h:0<=i/\i<n):i.toNat<n:=by omega
theorem bFy {C:Cfg U} (h:RR C.E n N w0 ρ s a w) {look:Nat->Option (aV U)} (hlook:∀id ob,look id=some ob->s.objs id=some ob) {t:TypeId}
  {x:aB U} {v:Value} (hx:Rel C.E w ρ (aM N ρ w) x v) {k:IntKind} {i:Int} {cs:List Prop} {r:aB U} {ob:Option (Nat×aV U)}
  (ho:aFY C look t x i=some (cs,r,ob)) (hc:dE cs):ob=none/\∃q,(Instr.indexAt t v (.int k i)).run C.P w=.ok q w/\Rel C.E w ρ (aM N ρ w) r q:=by
 unfold aFY at ho;split at ho
 ·rename_i e hu;split at ho
  ·rename_i τ xs;have hbb:=bI ho;clear ho;obtain⟨hb,ho⟩:=hbb;simp only[Option.some.injEq,Prod.mk.injEq] at ho;obtain⟨rfl,rfl,rfl⟩:=ho;obtain⟨ti,hti,hts⟩:=oF hb;have hi:0<=i/\i<xs.length:=hc;have hi':=toNat_lt hi;refine⟨rfl,?_⟩;cases hx with
   |jI _=>simp at hi'
   |sle _ _=>simp at hi'
   |sl _ _ b o cap f hst hcap hcc hl=>
    refine⟨.pointer (some ⟨b,o+i.toNat*U.size τ,none⟩),?_,?_⟩
    ·simp[Instr.indexAt,asIntOf,run_underlying hu,hi,sizeOf,typeInfo,hti,hts,addr_add]
    ·have hxi:xs.getD i.toNat (C.E.dflt τ)=xs[i.toNat]:=by simp[hi']
     rw[hxi];have:=Rel.ref (E:=C.E) (w:=w) (ρ:=ρ) (st:=aM N ρ w) (C.E.enc τ xs[i.toNat]) 0 b (o+i.toNat*U.size τ) (fun k=>f (i.toNat*U.size τ+k)) hst (fun k hk=>by
      have hk':k<U.size τ:=by rw[C.E.enc_len] at hk;exact hk
      have h4:(i.toNat+1)*U.size τ<=xs.length*U.size τ:=Nat.mul_le_mul_right _ hi';rw[Nat.add_mul,Nat.one_mul] at h4;rw[Nat.add_assoc];exact hcc _ (by omega)) (fun k hk=>hl _ hi' k hk)
     simpa using this
  ·rename_i id g;split at ho
   ·rename_i τ g' xs hl;have hbb:=bI ho;clear ho;obtain⟨hb,ho⟩:=hbb;simp only[Option.some.injEq,Prod.mk.injEq] at ho;obtain⟨rfl,rfl,rfl⟩:=ho;simp only[Bool.and_eq_true] at hb;obtain rfl:=Nat.eq_of_beq_eq_true hb.1;obtain⟨ti,hti,hts⟩:=oF hb.2;have hi:0<=i/\i<xs.length:=hc;have hi':=toNat_lt hi;refine⟨rfl,?_⟩;obtain⟨u,cs',h1,hp,h2,h3⟩:=h.objs _ _ (hlook _ _ hl);cases hx with
    |osl _ _ u' hr' hp'=>
     rw[h1] at hr';simp only[Option.some.injEq,Prod.mk.injEq,true_and] at hr';subst hr';rcases h2.2 with ⟨h0,fX⟩|⟨gb,cap,cur,rfl,hbase,hgb,hn,hcm,hcs,htake⟩
     ·omega
     ·refine⟨.pointer (some ⟨gb,i.toNat*U.size τ,none⟩),?_,?_⟩
      ·simp[Instr.indexAt,asIntOf,run_underlying hu,hi,sizeOf,typeInfo,hti,hts,addr_add]
      ·exact .eptr id g i.toNat 0 (U.size τ) gb xs.length cap h1 hi'
    |oslOld _ _ g' u' v hr' hg=>
     rw[h1] at hr';simp only[Option.some.injEq,Prod.mk.injEq] at hr';omega
   ·rename_i τ g' gm xs hl;have hbb:=bI ho;clear ho;obtain⟨hb,ho⟩:=hbb;simp only[Option.some.injEq,Prod.mk.injEq] at ho;obtain⟨rfl,rfl,rfl⟩:=ho;simp only[Bool.and_eq_true] at hb;obtain rfl:=Nat.eq_of_beq_eq_true hb.1;obtain⟨ti,hti,hts⟩:=oF hb.2;have hi:0<=i/\i<xs.length:=hc;have hi':=toNat_lt hi;refine⟨rfl,?_⟩;obtain⟨u,cs',h1,hp,h2,h3⟩:=h.objs _ _ (hlook _ _ hl);cases hx with
    |osl _ _ u' hr' hp'=>
     rw[h1] at hr';simp only[Option.some.injEq,Prod.mk.injEq,true_and] at hr';subst hr';rcases h2.2 with ⟨h0,fX⟩|⟨gb,cap,cur,rfl,hbase,hgb,hn,hcm,hcs,htake⟩
     ·omega
     ·refine⟨.pointer (some ⟨gb,i.toNat*U.size τ,none⟩),?_,?_⟩
      ·simp[Instr.indexAt,asIntOf,run_underlying hu,hi,sizeOf,typeInfo,hti,hts,addr_add]
      ·exact .eptr id g i.toNat 0 (U.size τ) gb xs.length cap h1 hi'
    |oslOld _ _ g' u' v hr' hg=>
     rw[h1] at hr';simp only[Option.some.injEq,Prod.mk.injEq] at hr';omega
   ·cases ho
  ·rename_i id q g;split at ho
   ·rename_i τ ys hm;have hbb:=bI ho;clear ho;obtain⟨hb,ho⟩:=hbb;simp only[Option.some.injEq,Prod.mk.injEq] at ho;obtain⟨rfl,rfl,rfl⟩:=ho;obtain⟨ti,hti,hts⟩:=oF hb;have hi:0<=i/\i<ys.length:=hc;have hi':=toNat_lt hi;refine⟨rfl,?_⟩;have hms:=wA h hlook hm;cases hx with
    |mslOld _ _ _ g' u v hr hg=>
     have:=(hms _ _ hr).1;omega
    |msl _ _ _ u hr=>
     obtain⟨_,ds,hp,h2,h3⟩:=hms _ _ hr;rcases h2.2 with ⟨h0,fX⟩|⟨gb,cap,cur,rfl,hbase,hgb,hn,hcm,hcs,htake⟩
     ·omega
     ·refine⟨.pointer (some ⟨gb,i.toNat*U.size τ,none⟩),?_,?_⟩
      ·simp[Instr.indexAt,asIntOf,run_underlying hu,hi,sizeOf,typeInfo,hti,hts,addr_add]
      ·exact .meptr id q g i.toNat 0 (U.size τ) gb ys.length cap hr hi'
   ·cases ho
  ·simp only[Option.some.injEq,Prod.mk.injEq] at ho;obtain⟨rfl,rfl,rfl⟩:=ho;exact(show False from hc).elim
  ·rename_i id g lo hi sz;split at ho
   ·rename_i τ g' xs hl;have hbb:=bI ho;clear ho;obtain⟨hb,ho⟩:=hbb;simp only[Option.some.injEq,Prod.mk.injEq] at ho;obtain⟨rfl,rfl,rfl⟩:=ho;simp only[Bool.and_eq_true] at hb;obtain rfl:=Nat.eq_of_beq_eq_true hb.1.1;obtain rfl:=Nat.eq_of_beq_eq_true hb.1.2;obtain⟨ti,hti,hts⟩:=oF hb.2;have hic:0<=i/\i<((hi-lo:Nat):Int):=hc;refine⟨rfl,?_⟩;obtain⟨u,cs',h1,hp,h2,h3⟩:=h.objs _ _ (hlook _ _ hl);cases hx with
    |ovwOld _ _ _ _ _ g' u' v hr' hg=>
     rw[h1] at hr';simp only[Option.some.injEq,Prod.mk.injEq] at hr';omega
    |ovw _ _ _ _ _ u' ad c hr' hp' hle had=>
     rcases had with ⟨rfl,rfl,rfl⟩|⟨b,n',cap,o,rfl,hn,rfl,hoo,hcap⟩
     ·omega
     ·obtain rfl:=hoo (by omega);refine⟨.pointer (some ⟨b,(lo+i.toNat)*U.size τ,none⟩),?_,.eptr id g (lo+i.toNat) 0 (U.size τ) b n' cap hr' (by omega)⟩;simp[Instr.indexAt,asIntOf,run_underlying hu,hic,sizeOf,typeInfo,hti,hts,addr_add,Nat.add_mul]
      try omega
   ·cases ho
  ·cases ho
 ·rename_i len e hu;split at ho
  ·rename_i m hm;obtain⟨ti,hti,rfl⟩:=kK hm;split at ho
   ·simp only[Option.some.injEq,Prod.mk.injEq] at ho;obtain⟨rfl,rfl,rfl⟩:=ho;have hi:0<=i/\i<len:=hc;refine⟨rfl,?_⟩;cases hx with
    |ptr _ _ b hb=>
     refine⟨_,?_,.ptr _ _ b hb⟩;simp[Instr.indexAt,asIntOf,run_underlying hu,hi,sizeOf,typeInfo,hti,Instr.sureAddr,addr_add]
   ·simp only[Option.some.injEq,Prod.mk.injEq] at ho;obtain⟨rfl,rfl,rfl⟩:=ho;have hi:0<=i/\i<len:=hc;refine⟨rfl,?_⟩;cases hx with
    |ref _ _ b o f hst hcc hl=>
     refine⟨_,?_,.ref _ _ b o f hst hcc hl⟩;simp[Instr.indexAt,asIntOf,run_underlying hu,hi,sizeOf,typeInfo,hti,Instr.sureAddr,addr_add,Nat.add_assoc]
   ·cases ho
  ·cases ho
 ·cases ho
theorem bFv {C:Cfg U} {t:TypeId} {st:Nat->Prop}
  {x:aB U} {v:Value} (hx:Rel C.E w ρ st x v) {k:IntKind} {i:Int} {cs:List Prop} {r:aB U} {ob:Option (Nat×aV U)}
  (ho:indexOf C t x i=some (cs,r,ob)) (hc:dE cs):ob=none/\∃q,(Instr.index t v (.int k i)).run C.P w=.ok q w/\Rel C.E w ρ st r q:=by
 unfold indexOf at ho;split at ho
 ·rename_i b hu;simp only[Option.some.injEq,Prod.mk.injEq] at ho;obtain⟨rfl,rfl,rfl⟩:=ho;have hi:0<=i/\i<b.size:=hc;have hi':=toNat_lt hi;refine⟨rfl,?_⟩;cases hx;refine⟨_,?_,.int _ _⟩;have e:b[i.toNat]?=some (b.data.toList.getD i.toNat 0):=by
   have h3:b.data.toList.getD i.toNat 0=b[i.toNat]:=by
    have h4:i.toNat<b.data.size:=hi';have h5:b.data[i.toNat]?=some b.data[i.toNat]:=Array.getElem?_eq_getElem h4;simp[h5];rfl
   rw[h3];exact getElem?_pos b i.toNat hi'
  simp only[Instr.index,asIntOf,Sem.run_bind,Sem.run_pure,Result.andThen_ok,run_underlying hu,if_pos hi.1,e]
 ·rename_i len e l hu;split at ho
  ·rename_i m hm;obtain⟨ti,hti,rfl⟩:=kK hm;split at ho
   ·rename_i y hy;simp only[Option.some.injEq,Prod.mk.injEq] at ho;obtain⟨rfl,rfl,rfl⟩:=ho;have hi:0<=i/\i<len:=hc;refine⟨rfl,?_⟩;cases hx with
    |agg _ vs hn hl=>
     obtain⟨q,hq,hr⟩:=u7 (w:=w) hy hn hl;refine⟨q,?_,hr⟩;simp only[Instr.index,asIntOf,Sem.run_bind,Sem.run_pure,Result.andThen_ok,run_underlying hu,if_pos hi,sizeOf,typeInfo,run_program,hti,hq]
   ·cases ho
  ·cases ho
 ·cases ho
theorem aNL {E:Enc U} {st:Nat->Prop} {τ:U.τ} {xs:List (U.T τ)} {b o cap l m c:Nat} {f:Nat->Value} (hst:st b) (hcap:m<=c) (hlm:l+m<=xs.length)
  (hc:∀k,k<xs.length*U.size τ->w.cell? ⟨b,o+k,none⟩=some (f k)) (hl:∀i (h:i<xs.length) k (hk:k<(E.enc τ xs[i]).length),Rel E w ρ st (E.enc τ xs[i])[k] (f (i*U.size τ+k))) (a':Addr)
  (ha:a'=⟨b,o+l*U.size τ,none⟩\/(m=0/\a'=⟨b,o,none⟩)):
  Rel E w ρ st (.sl τ ((xs.drop l).take m)) (.slice (some a') m c):=by
 have hlen:((xs.drop l).take m).length=m:=by simp;omega
 rcases ha with rfl|⟨rfl,rfl⟩
 ·have:=Rel.sl (E:=E) (w:=w) (ρ:=ρ) (st:=st) τ ((xs.drop l).take m) b (o+l*U.size τ) c (fun k=>f (l*U.size τ+k)) hst (by rw[hlen];exact hcap) (fun k hk=>by
   rw[hlen] at hk;have h4:(l+m)*U.size τ<=xs.length*U.size τ:=Nat.mul_le_mul_right _ hlm;rw[Nat.add_mul] at h4;rw[Nat.add_assoc];exact hc _ (by omega)) (fun i hi k hk=>by
   rw[hlen] at hi;have e:((xs.drop l).take m)[i]'(by rw[hlen];exact hi)=xs[l+i]'(by omega):=by simp
   have cW:k<(E.enc τ (xs[l+i]'(by omega))).length:=by rw[e] at hk;exact hk
   have:=hl (l+i) (by omega) k cW;have e2:(l+i)*U.size τ+k=l*U.size τ+(i*U.size τ+k):=by rw[Nat.add_mul];omega
   rw[e2] at this;simp only[e];exact this)
  rw[hlen] at this;exact this
 ·have h0:(xs.drop l).take 0=[]:=rfl;rw[h0];exact Rel.sl (E:=E) (w:=w) (ρ:=ρ) (st:=st) τ [] b o c f hst (by simp) (fun k hk=>absurd hk (by simp)) (fun i hi=>absurd hi (by simp))
theorem aEK {P:Program} {t:TypeId} {d:TypeDesc} (hu:P.underlying t=some d) (hd:∀n e,d≠ .array n e) (v:Value) (lo hi:Option Value):(Instr.sliceAt t v lo hi none).run P w=(Instr.slice t v lo hi none).run P w:=by
 simp only[Instr.sliceAt,Sem.run_bind,run_underlying hu,Result.andThen_ok]
theorem lG {P:Program} {k:IntKind} {i:Int} {y:Nat} {code:BoundsCode} (h:0<=i/\i<=y):(Instr.sliceBound (.int k i) y code).run P w=.ok i.toNat w:=by
 simp[Instr.sliceBound,asIntOf,h]
theorem aY7 {C:Cfg U} {st:Nat->Prop} {t:TypeId} {x:aB U} {v:Value} (hx:Rel C.E w ρ st x v) {lo hi:Option (aB U)} {lo' hi':Option Value}
  (hlo:∀y,lo=some y->∃v,lo'=some v/\Rel C.E w ρ st y v) (hlo0:lo=none->lo'=none)
  (hhi:∀y,hi=some y->∃v,hi'=some v/\Rel C.E w ρ st y v) (hhi0:hi=none->hi'=none)
  {cs:List Prop} {r:aB U} {ob:Option (Nat×aV U)} (ho:pL C t x lo hi=some (cs,r,ob)) (hc:dE cs):
  ob=none/\∃q,(Instr.sliceAt t v lo' hi' none).run C.P w=.ok q w/\Rel C.E w ρ st r q:=by
 unfold pL at ho;split at ho
 ·rename_i b hu;rw[aEK hu (fun _ _ e=>by cases e)];cases hx;split at ho
  ·rename_i kl l kh h;simp only[Option.some.injEq,Prod.mk.injEq] at ho;obtain⟨rfl,rfl,rfl⟩:=ho;obtain⟨_,rfl,gN⟩:=hlo _ rfl;obtain⟨_,rfl,iR⟩:=hhi _ rfl;cases gN;cases iR;have h0:0<=l/\l<=h/\h<=b.size:=hc;refine⟨rfl,_,?_,.str _⟩;have bV:=lG (P:=C.P) (w:=w) (k:=kh) (code:=.sliceAlen) (show 0<=h/\h<=b.size by omega);have cA:=lG (P:=C.P) (w:=w) (k:=kl) (code:=.sliceB) (show 0<=l/\l<=h.toNat by omega);simp[Instr.slice,Instr.sliceBounds,run_underlying hu,bV,cA]
  ·rename_i kl l;simp only[Option.some.injEq,Prod.mk.injEq] at ho;obtain⟨rfl,rfl,rfl⟩:=ho;obtain⟨_,rfl,gN⟩:=hlo _ rfl;obtain rfl:=hhi0 rfl;cases gN;have h0:0<=l/\l<=b.size:=hc;refine⟨rfl,_,?_,.str _⟩;have cA:=lG (P:=C.P) (w:=w) (k:=kl) (code:=.sliceB) (show 0<=l/\l<=b.size by omega);simp[Instr.slice,Instr.sliceBounds,run_underlying hu,cA]
  ·rename_i kh h;simp only[Option.some.injEq,Prod.mk.injEq] at ho;obtain⟨rfl,rfl,rfl⟩:=ho;obtain⟨_,rfl,iR⟩:=hhi _ rfl;obtain rfl:=hlo0 rfl;cases iR;have h0:0<=h/\h<=b.size:=hc;refine⟨rfl,_,?_,.str _⟩;have bV:=lG (P:=C.P) (w:=w) (k:=kh) (code:=.sliceAlen) (show 0<=h/\h<=b.size by omega);simp[Instr.slice,Instr.sliceBounds,run_underlying hu,bV]
  ·simp only[Option.some.injEq,Prod.mk.injEq] at ho;obtain⟨rfl,rfl,rfl⟩:=ho;obtain rfl:=hlo0 rfl;obtain rfl:=hhi0 rfl;refine⟨rfl,_,?_,.str _⟩;simp[Instr.slice,Instr.sliceBounds,run_underlying hu]
  ·cases ho
 ·rename_i e τ xs hu;have hbb:=bI ho;clear ho;obtain⟨hb,ho⟩:=hbb;obtain⟨ti,hti,hts⟩:=oF hb;rw[aEK hu (fun _ _ e=>by cases e)]
  -- the slice's value
  have hv:∃(ad:Option Addr) (cap:Nat),v=.slice ad xs.length cap/\xs.length<=cap/\∀(l m c:Nat),m<=c->c<=cap->l+m<=xs.length->(m=0\/c≠0)->
    ∀ad',(ad'=ad.map (·.add (l*U.size τ))\/(m=0/\ad'=ad))->(ad=none->c=0)->Rel C.E w ρ st (.sl τ ((xs.drop l).take m)) (.slice ad' m c):=by
   cases hx with
   |jI _=>
    refine⟨none,0,rfl,by simp,fun l m c hmc _ hlm _ ad' had lT=>?_⟩;have hm:m=0:=by simp at hlm;omega
    subst hm;obtain rfl:=lT rfl;have:ad'=none:=by
     rcases had with h|⟨_,h⟩<;>simpa using h
    subst this;exact .jI τ
   |sle _ ad0=>
    refine⟨some ad0,0,rfl,by simp,fun l m c hmc lT hlm _ ad' had _=>?_⟩;have hm:m=0:=by omega
    have jN:c=0:=by omega
    subst hm;subst jN;show Rel C.E w ρ st (.sl τ []) _;exact .slE τ ad'
   |sl _ _ b o cap f hst hcap hcc hl=>
    refine⟨some ⟨b,o,none⟩,cap,rfl,hcap,fun l m c hmc _ hlm _ ad' had _=>?_⟩;rcases had with rfl|⟨rfl,rfl⟩
    ·simp only[Option.map_some,addr_add];exact aNL (cap:=cap) hst hmc hlm hcc hl _ (.inl rfl)
    ·exact aNL (cap:=cap) hst hmc hlm hcc hl _ (.inr ⟨rfl,rfl⟩)
  obtain⟨ad,cap,rfl,hcap,hpart⟩:=hv;have had0:ad=none->cap=0:=fun e=>by
   subst e;cases hx;rfl
  split at ho
  ·rename_i kl l kh h;simp only[Option.some.injEq,Prod.mk.injEq] at ho;obtain⟨rfl,rfl,rfl⟩:=ho;obtain⟨_,rfl,gN⟩:=hlo _ rfl;obtain⟨_,rfl,iR⟩:=hhi _ rfl;cases gN;cases iR;have h0:0<=l/\l<=h/\h<=xs.length:=hc;have bV:=lG (P:=C.P) (w:=w) (k:=kh) (code:=.sliceAcap) (show 0<=h/\h<=cap by omega);have cA:=lG (P:=C.P) (w:=w) (k:=kl) (code:=.sliceB) (show 0<=l/\l<=h.toNat by omega);refine⟨rfl,.slice (if cap=l.toNat then ad else ad.map (·.add (l.toNat*U.size τ))) (h.toNat-l.toNat) (cap-l.toNat),?_,?_⟩
   ·simp[Instr.slice,Instr.sliceBounds,run_underlying hu,bV,cA,sizeOf,typeInfo,hti,hts]
   ·refine hpart l.toNat (h.toNat-l.toNat) (cap-l.toNat) (by omega) (by omega) (by omega) (by omega) _ ?_ (fun e=>by have:=had0 e;omega)
    by_cases hcl:cap=l.toNat
    ·rw[if_pos hcl];exact .inr ⟨by omega,rfl⟩
    ·rw[if_neg hcl];exact .inl rfl
  ·rename_i kl l;simp only[Option.some.injEq,Prod.mk.injEq] at ho;obtain⟨rfl,rfl,rfl⟩:=ho;obtain⟨_,rfl,gN⟩:=hlo _ rfl;obtain rfl:=hhi0 rfl;cases gN;have h0:0<=l/\l<=xs.length:=hc;have cA:=lG (P:=C.P) (w:=w) (k:=kl) (code:=.sliceB) (show 0<=l/\l<=xs.length by omega);refine⟨rfl,.slice (if cap=l.toNat then ad else ad.map (·.add (l.toNat*U.size τ))) (xs.length-l.toNat) (cap-l.toNat),?_,?_⟩
   ·simp[Instr.slice,Instr.sliceBounds,run_underlying hu,cA,sizeOf,typeInfo,hti,hts]
   ·have:=hpart l.toNat (xs.length-l.toNat) (cap-l.toNat) (by omega) (by omega) (by omega) (by omega) (if cap=l.toNat then ad else ad.map (·.add (l.toNat*U.size τ))) (by
     by_cases hcl:cap=l.toNat
     ·rw[if_pos hcl];exact .inr ⟨by omega,rfl⟩
     ·rw[if_neg hcl];exact .inl rfl) (fun e=>by have:=had0 e;omega)
    have e:(xs.drop l.toNat).take (xs.length-l.toNat)=xs.drop l.toNat:=List.take_of_length_le (by simp);rw[e] at this;exact this
  ·rename_i kh h;simp only[Option.some.injEq,Prod.mk.injEq] at ho;obtain⟨rfl,rfl,rfl⟩:=ho;obtain⟨_,rfl,iR⟩:=hhi _ rfl;obtain rfl:=hlo0 rfl;cases iR;have h0:0<=h/\h<=xs.length:=hc;have bV:=lG (P:=C.P) (w:=w) (k:=kh) (code:=.sliceAcap) (show 0<=h/\h<=cap by omega);refine⟨rfl,.slice (if cap=0 then ad else ad.map (·.add (0*U.size τ))) h.toNat cap,?_,?_⟩
   ·simp[Instr.slice,Instr.sliceBounds,run_underlying hu,bV,sizeOf,typeInfo,hti]
   ·have:=hpart 0 h.toNat cap (by omega) (Nat.le_refl _) (by omega) (by omega) (if cap=0 then ad else ad.map (·.add (0*U.size τ))) (by
     by_cases hcl:cap=0
     ·rw[if_pos hcl];exact .inr ⟨by omega,rfl⟩
     ·rw[if_neg hcl];exact .inl rfl) had0
    simpa using this
  ·simp only[Option.some.injEq,Prod.mk.injEq] at ho;obtain⟨rfl,rfl,rfl⟩:=ho;obtain rfl:=hlo0 rfl;obtain rfl:=hhi0 rfl;refine⟨rfl,.slice (if cap=0 then ad else ad.map (·.add (0*U.size τ))) xs.length cap,?_,?_⟩
   ·simp[Instr.slice,Instr.sliceBounds,run_underlying hu,sizeOf,typeInfo,hti]
   ·have:=hpart 0 xs.length cap hcap (Nat.le_refl _) (by omega) (by omega) (if cap=0 then ad else ad.map (·.add (0*U.size τ))) (by
     by_cases hcl:cap=0
     ·rw[if_pos hcl];exact .inr ⟨by omega,rfl⟩
     ·rw[if_neg hcl];exact .inl rfl) had0
    simpa using this
  ·cases ho
 ·cases ho
end
end Go.Vm
namespace Go.Vm
open Go.RowKit
set_option linter.unusedVariables false
section
variable {U:dH} {n:Nat} {N:Nat->Prop} {w0:Fr} {w w':World} {ρ ρ':Own} {s:ASt U} {a:Act}
theorem bEs {P:Program}:∀(l:List Field) (w:World) (r:List (Nat×Nat)),aC0 P l=some r->
  (l.mapM fun f=>do pure (f.offset,<- sizeOf f.type):Sem (List (Nat×Nat))).run P w=.ok r w:=by
 intro l
 induction l with
 |nil=>
  intro w r hr;simp only[aC0,Option.some.injEq] at hr;subst hr;rfl
 |cons f l ih=>
  intro w r hr;simp only[aC0] at hr;split at hr
  ·rename_i m r' hm hr';obtain rfl:=Option.some.inj hr;obtain⟨i,hi,rfl⟩:=kK hm;have e:=ih w r' hr';simp only[List.mapM_cons,Sem.run_bind,sizeOf,typeInfo,run_program,Result.andThen_ok,Sem.run_pure];simp only[hi,Sem.run_pure,Result.andThen_ok];simp only[sizeOf,typeInfo] at e;simp only[e,Result.andThen_ok]
  ·cases hr
theorem bK3 {P:Program} {E:Enc U} {st:Nat->Prop} {look:Nat->Option (aV U)} (hst:∀(x:aB U) v,Rel E w ρ st x v->storable look x=true->v.oneCell'=true) {t:TypeId} {pl:Nat->Option (Nat×Nat)} (hpl:placesOf P t=some pl)
  {z:List (aB U)} (hz:zeroCells P t=some z) {parts:List (Nat×aB U)} {parts':Array (Nat×Value)} (hlen:parts.length=parts'.size)
  (hp:∀k (h:k<parts.length) (h':k<parts'.toList.length),parts[k].1=parts'.toList[k].1/\Rel E w ρ st parts[k].2 parts'.toList[k].2) {l:List (aB U)} (hl:kU look pl z parts=some l):
  ∃q,(Instr.build t parts').run P w=.ok q w/\Rel E w ρ st (.agg l) q:=by
 obtain⟨zv,hzr,hzsz,hzrel⟩:=pB (E:=E) (w:=w) (ρ:=ρ) hz;unfold placesOf at hpl;split at hpl
 ·rename_i fields hu;split at hpl
  ·rename_i r hr;obtain rfl:=Option.some.inj hpl;have hma:(fields.mapM fun f=>do pure (f.offset,<- sizeOf f.type):Sem (Array (Nat×Nat))).run P w=.ok r.toArray w:=by
    rw[Array.mapM_eq_mapM_toList];simp only[Sem.run_map,bEs _ w r hr,Result.andThen_ok]
   obtain⟨c',hfill,hc's,hc'r⟩:=aGI (E:=E) (w:=w) (ρ:=ρ) hst (place':=fun i=>(r.toArray)[i]?) (fun i q hq=>by simpa using hq) parts parts'.toList z l zv.cells (by simpa using hlen) hp hl hzsz (fun k hk=>hzrel _ k hk);refine⟨.agg c',?_,.agg l c' hc's hc'r⟩;simp only[Instr.build,Sem.run_bind,hzr,Result.andThen_ok,run_underlying hu,hma,hfill,Sem.run_pure]
  ·cases hpl
 ·rename_i len e hu;split at hpl
  ·rename_i m hm;obtain rfl:=Option.some.inj hpl;obtain⟨ti,hti,rfl⟩:=kK hm;obtain⟨c',hfill,hc's,hc'r⟩:=aGI (E:=E) (w:=w) (ρ:=ρ) hst (place':=fun i=>some (i*ti.size,ti.size)) (fun i q hq=>hq) parts parts'.toList z l zv.cells (by simpa using hlen) hp hl hzsz (fun k hk=>hzrel _ k hk);refine⟨.agg c',?_,.agg l c' hc's hc'r⟩;simp only[Instr.build,Sem.run_bind,hzr,Result.andThen_ok,run_underlying hu,sizeOf,typeInfo,run_program,hti,Sem.run_pure,hfill]
  ·cases hpl
 ·cases hpl
theorem bGr {look:Nat->Option (aV U)} {p x:aB U} {r:Nat×aV U} (h:aCW look p x=some r):x.cellsOf.length=1:=by
 unfold aCW at h;split at h
 ·rfl
 ·cases h
theorem bGq {P:Program} {E:Enc U} (h:RR E n N w0 ρ s a w) {look:Nat->Option (aV U)} (hlook:∀id ob,look id=some ob->s.objs id=some ob)
  {p x:aB U} {v u:Value} (hp:Rel E w ρ (aM N ρ w) p v) (hx:Rel E w ρ (aM N ρ w) x u) {id:Nat} {ob:aV U} (hs:aCW look p x=some (id,ob))
  {t:TypeId} (hm:fU P t=some 1):
  ∃w' ρ',(Instr.storeAt t v u).run P w=.ok () w'/\RR E n N w0 ρ' (s.obj id ob) a w':=by
 obtain⟨ti,hti,htis⟩:=kK hm;unfold aCW at hs;split at hs
 ·rename_i id' g i off sz m gm;split at hs
  ·rename_i _ _ t' g' xs _ gm' _ hl hlm;obtain⟨hb,hs⟩:=bI hs;simp only[Option.some.injEq,Prod.mk.injEq] at hs;obtain⟨rfl,rfl⟩:=hs;simp only[Bool.and_eq_true] at hb;obtain⟨⟨⟨⟨bV,cA⟩,gZ⟩,kP⟩,hb5⟩:=hb;obtain rfl:=Nat.eq_of_beq_eq_true bV;obtain rfl:=Nat.eq_of_beq_eq_true cA;obtain rfl:=Nat.eq_of_beq_eq_true gZ;obtain rfl:=Nat.eq_of_beq_eq_true kP;have hsz:=Nat.eq_of_beq_eq_true hb5;have hone:u.oneCell'=true:=sG h hlook hx (by simp only[storable,hlm];exact Nat.beq_refl _);have hcu:u.cells=#[u]:=cells_one hone;obtain⟨u1,cs,h1,hpp,h2,h3⟩:=h.objs _ _ (hlook _ _ hl);cases hp with
   |eptrOld _ _ _ _ _ g' u' v hr hg=>
    rw[h1] at hr;simp only[Option.some.injEq,Prod.mk.injEq] at hr;omega
   |eptr _ _ _ _ _ b n' cap hr hi=>
    rw[h1] at hr;simp only[Option.some.injEq,Prod.mk.injEq,true_and] at hr;subst hr;rcases h2.2 with ⟨h0,_⟩|⟨gb,cap',cur,heq,hbase,hgb,hn,hcm,hcs,htake⟩
    ·cases h0
    simp only[Value.slice.injEq,Option.some.injEq,Addr.mk.injEq,and_true] at heq;obtain⟨rfl,rfl,rfl⟩:=heq;rw[hsz,Nat.mul_one] at hcs htake;have hrun:=run_storeCells_at P b i (U.ety t') [u] 0 cur w hgb (by simp;omega) (fun q hq=>by simp only[List.mem_singleton] at hq;subst hq;exact hone);simp only[Nat.add_zero] at hrun;refine⟨w.setRow b (cur.toList.take i++[u]++cur.toList.drop (i+[u].length)).toArray,bZ ρ id' g (.slice (some ⟨b,0,none⟩) xs.length cap),?_,?_⟩
    ·simp only[Instr.storeAt,Instr.sureAddr,storeVar,sizeOf,typeInfo,Sem.run_bind,Sem.run_pure,Result.andThen_ok,run_program,hti];have:¬((#[u]:Array Value).size≠ti.size):=by simp only[ne_eq,Decidable.not_not,htis];rfl
     simp only[hcu,if_neg this,Nat.mul_one,Nat.add_zero];exact hrun
    ·have hold:∀g1 u',ρ id'=some (g1,u')->(g1=g/\u'=.slice (some ⟨b,0,none⟩) xs.length cap)\/((∀a,u'≠ .pointer a)/\g1<g):=fun g1 u' hr=>by
      rw[h1] at hr;simp only[Option.some.injEq,Prod.mk.injEq] at hr;exact .inl ⟨hr.1.symm,hr.2.symm⟩
     have hsame:∀b',b'<w.heap.size->(∀g u',ρ id'=some (g,u')->blk u'≠some b')->(w.setRow b (cur.toList.take i++[u]++cur.toList.drop (i+[u].length)).toArray).heap[b']?=w.heap[b']?:=fun b' _ hne=>
      setRow_other w b b' _ (fun e=>hne _ _ h1 (by simp[blk,e]))
     have hnew:∀b',blk (.slice (some ⟨b,0,none⟩) xs.length cap)=some b'->(∃g u',ρ id'=some (g,u')/\blk u'=some b')\/(w.heap.size<=b'):=fun b' hb'=>.inl ⟨_,_,h1,hb'⟩
     have hb:=xJ hbase w (cur.toList.take i++[u]++cur.toList.drop (i+[u].length)).toArray;have hcl:cur.toList.length=cap:=by simpa using hcs
     have hget:∀q,q<xs.length->((cur.toList.take i++[u]++cur.toList.drop (i+[u].length)).take xs.length).getD q undef=if q=i then u else cs.getD q undef:=fun q hq=>by
      have e1:cs[q]?=cur.toList[q]?:=by
       rw[<- htake,List.getElem?_take,if_pos hq]
      simp only[List.getD_eq_getElem?_getD,List.getElem?_take,if_pos hq,e1];simp only[List.append_assoc,List.getElem?_append,List.length_take,hcl,List.length_singleton]
      by_cases hqi:q=i
      ·subst hqi;rw[if_pos rfl,if_neg (by omega),if_pos (by omega)];have:q-min q cap=0:=by omega
       simp[this]
      ·rw[if_neg hqi];congr 1
       by_cases hlt:q<i
       ·rw[if_pos (by omega),List.getElem?_take,if_pos hlt]
       ·rw[if_neg (by omega),if_neg (by omega),List.getElem?_drop];congr 1;omega
     have hsimp:∀ob,s.objs id'=some ob->ob.simple=true:=fun ob ho=>by rw[hlook _ _ hl] at ho;cases ho;rfl
     refine h.upd id' g _ _ hsimp hold hb hsame hnew ?_;refine⟨_,(cur.toList.take i++[u]++cur.toList.drop (i+[u].length)).take xs.length,by simp[bZ],hpp,⟨?_,.inr ⟨b,cap,_,rfl,hbase,setRow_heap w b cur _ _ (0,0) hgb,hn,hcm,?_,?_⟩⟩,hsz,hi,?_,?_⟩
     ·rw[hsz,Nat.mul_one];simp only[List.length_take,List.length_append,List.length_drop,List.length_singleton,hcl];omega
     ·rw[hsz,Nat.mul_one];simp only[List.size_toArray,List.length_append,List.length_take,List.length_drop,List.length_singleton,hcl];omega
     ·rw[hsz,Nat.mul_one]
     ·rw[hget i hi,if_pos rfl];exact h.oA id' g _ hsimp hold hb hsame hnew hx
     ·intro j hj hji k hk;have iI:k=0:=by rw[E.enc_len,hsz] at hk;omega
      subst iI;rw[hsz,Nat.mul_one,Nat.add_zero,hget j hj,if_neg hji];have:=h3 j hj 0 hk;rw[hsz,Nat.mul_one,Nat.add_zero] at this;exact h.oA id' g _ hsimp hold hb hsame hnew this
  ·cases hs
 ·cases hs
theorem bFI {P:Program} {E:Enc U} (h:RR E n N w0 ρ s a w) {look:Nat->Option (aV U)} (hlook:∀id ob,look id=some ob->s.objs id=some ob)
  {t:TypeId} {p:aB U} {v:Value} (hp:Rel E w ρ (aM N ρ w) p v) {cs:List Prop} {r:aB U} {ob:Option (Nat×aV U)} (ho:aFI P look t p=some (cs,r,ob)) (hc:dE cs):
  ob=none/\∃ad u,v=.pointer (some ad)/\(loadVar t ad).run P w=.ok u w/\Rel E w ρ (aM N ρ w) r u:=by
 unfold aFI at ho;split at ho
 ·rename_i id g i off sz;split at ho
  ·rename_i t' g' xs i' m gm hl;split at ho
   ·rename_i d hu hag;obtain⟨hb,ho⟩:=bI ho;cases ho;simp only[Bool.and_eq_true] at hb;obtain⟨⟨bV,cA⟩,gZ⟩:=hb;obtain rfl:=Nat.eq_of_beq_eq_true bV;obtain rfl:=Nat.eq_of_beq_eq_true cA;obtain rfl:=Nat.eq_of_beq_eq_true gZ;obtain rfl:i=i':=hc;refine⟨rfl,?_⟩;obtain⟨u1,cs',h1,hpp,h2,hsz,hil,hm,_⟩:=h.objs _ _ (hlook _ _ hl);cases hp with
    |eptrOld _ _ _ _ _ g' u' v hr hg=>
     rw[h1] at hr;simp only[Option.some.injEq,Prod.mk.injEq] at hr;omega
    |eptr _ _ _ _ _ b n' cap hr hi=>
     rw[h1] at hr;simp only[Option.some.injEq,Prod.mk.injEq,true_and] at hr;subst hr;rcases h2.2 with ⟨h0,_⟩|⟨gb,cap',cur,heq,hbase,hgb,hn,hcm,hcs,htake⟩
     ·cases h0
     simp only[Value.slice.injEq,Option.some.injEq,Addr.mk.injEq,and_true] at heq;obtain⟨rfl,rfl,rfl⟩:=heq;have hagg:=aFV (w:=w) hu;refine⟨_,cs'.getD i undef,rfl,?_,hm⟩;simp only[loadVar,Sem.run_bind,hagg,hag,Result.andThen_ok,Bool.false_eq_true,if_false];have hci:cs'[i]?=cur[i]?:=by
      rw[<- htake,hsz,Nat.mul_one,List.getElem?_take,if_pos hil];simp
     have hlt:i<cs'.length:=by rw[h2.1,hsz];omega
     rw[run_load,Nat.mul_one,Nat.add_zero,cell_of_row w b i cur _ (0,0) hgb,<- hci];simp[hlt]
   ·cases ho
  ·rename_i t' g' gm xs hl;split at ho
   ·rename_i d hu hag;obtain⟨hb,ho⟩:=bI ho;cases ho;simp only[Bool.and_eq_true] at hb;obtain⟨⟨bV,cA⟩,gZ⟩:=hb;obtain rfl:=Nat.eq_of_beq_eq_true bV;obtain rfl:=Nat.eq_of_beq_eq_true cA;obtain rfl:=Nat.eq_of_beq_eq_true gZ;refine⟨rfl,?_⟩;obtain⟨u1,cs',h1,hpp,h2,hsz,hno,h3⟩:=h.objs _ _ (hlook _ _ hl);cases hp with
    |eptrOld _ _ _ _ _ g' u' v hr hg=>
     rw[h1] at hr;simp only[Option.some.injEq,Prod.mk.injEq] at hr;omega
    |eptr _ _ _ _ _ b n' cap hr hi=>
     rw[h1] at hr;simp only[Option.some.injEq,Prod.mk.injEq,true_and] at hr;subst hr;rcases h2.2 with ⟨h0,_⟩|⟨gb,cap',cur,heq,hbase,hgb,hn,hcm,hcs,htake⟩
     ·cases h0
     simp only[Value.slice.injEq,Option.some.injEq,Addr.mk.injEq,and_true] at heq;obtain⟨rfl,rfl,rfl⟩:=heq;have hagg:=aFV (w:=w) hu;obtain⟨t1,ys,v1,ds,q1,q2,q3,q4,q5,q6⟩:=h3 i hi;refine⟨_,v1,rfl,?_,.msl id i gm v1 q2⟩;simp only[loadVar,Sem.run_bind,hagg,hag,Result.andThen_ok,Bool.false_eq_true,if_false];have hci:cs'[i]?=cur[i]?:=by
      rw[<- htake,hsz,Nat.mul_one,List.getElem?_take,if_pos hi];simp
     have hlt:i<cs'.length:=by rw[h2.1,hsz];omega
     rw[run_load,Nat.mul_one,Nat.add_zero,cell_of_row w b i cur _ (0,0) hgb,<- hci,<- q3];simp[hlt]
   ·cases ho
  ·cases ho
 ·cases ho
theorem bFx {C:Cfg U} (h:RR C.E n N w0 ρ s a w) {look:Nat->Option (aV U)} (hlook:∀id ob,look id=some ob->s.objs id=some ob) {t:TypeId}
  {x:aB U} {v:Value} (hx:Rel C.E w ρ (aM N ρ w) x v) {k:IntKind} {i:Int} {cs:List Prop} {r:aB U} {ob:Option (Nat×aV U)}
  (ho:aFX C look t x i=some (cs,r,ob)) (hc:dE cs):ob=none/\∃q,(Instr.indexAt t v (.int k i)).run C.P w=.ok q w/\Rel C.E w ρ (aM N ρ w) r q:=by
 unfold aFX at ho;split at ho
 ·rename_i e id g hu;split at ho
  ·rename_i τ g' xs _ _ _ hl;have hbb:=bI ho;clear ho;obtain⟨hb,ho⟩:=hbb;simp only[Option.some.injEq,Prod.mk.injEq] at ho;obtain⟨rfl,rfl,rfl⟩:=ho;simp only[Bool.and_eq_true] at hb;obtain rfl:=Nat.eq_of_beq_eq_true hb.1;obtain⟨ti,hti,hts⟩:=oF hb.2;have hi:0<=i/\i<xs.length:=hc;have hi':=toNat_lt hi;refine⟨rfl,?_⟩;obtain⟨u,cs',h1,hp,h2,h3⟩:=h.objs _ _ (hlook _ _ hl);cases hx with
   |osl _ _ u' hr' hp'=>
    rw[h1] at hr';simp only[Option.some.injEq,Prod.mk.injEq,true_and] at hr';subst hr';rcases h2.2 with ⟨h0,fX⟩|⟨gb,cap,cur,rfl,hbase,hgb,hn,hcm,hcs,htake⟩
    ·omega
    ·refine⟨.pointer (some ⟨gb,i.toNat*U.size τ,none⟩),?_,?_⟩
     ·simp[Instr.indexAt,asIntOf,run_underlying hu,hi,sizeOf,typeInfo,hti,hts,addr_add]
     ·exact .eptr id g i.toNat 0 (U.size τ) gb xs.length cap h1 hi'
   |oslOld _ _ g' u' v hr' hg=>
    rw[h1] at hr';simp only[Option.some.injEq,Prod.mk.injEq] at hr';omega
  ·cases ho
 ·cases ho
theorem RR.aLl {E:Enc U} (h:RR E n N w0 ρ s a w) {m gm:Nat} {t1:U.τ} {ys:List (U.T t1)} (hm:s.objs m=some (.row t1 gm ys)):
  RR E n N w0 (bZ ρ m (gm+1) (.slice none 0 0)) (s.obj m (.row t1 (gm+1) [])) a w/\
  (∀{v:Value},Rel E w ρ (aM N ρ w) (.osl m gm) v->Rel E w (bZ ρ m (gm+1) (.slice none 0 0)) (aM N (bZ ρ m (gm+1) (.slice none 0 0)) w) (.sl t1 ys) v):=by
 obtain⟨um,csm,m1,mp,m2,m3,m4⟩:=h.aBL hm;have hold:∀g u,ρ m=some (g,u)->(g=gm+1/\u=.slice none 0 0)\/((∀a,u≠ .pointer a)/\g<gm+1):=fun g u hr=>by
  rw[m1] at hr;cases hr;exact .inr ⟨mp,by omega⟩
 have hw:Below w0.heap.size w w:=Below.refl _ _;have hsame:∀b,b<w.heap.size->(∀g u,ρ m=some (g,u)->blk u≠some b)->w.heap[b]?=w.heap[b]?:=fun _ _ _=>rfl
 have hnew:∀b,blk (.slice none 0 0)=some b->(∃g u,ρ m=some (g,u)/\blk u=some b)\/(w.heap.size<=b):=fun b hb=>by cases hb
 have hsimp:∀ob,s.objs m=some ob->ob.simple=true:=fun ob ho=>by rw[hm] at ho;cases ho;rfl
 refine⟨h.upd m (gm+1) (.slice none 0 0) _ hsimp hold hw hsame hnew ⟨.slice none 0 0,[],by simp[bZ],(fun a e=>by cases e),World.ownsRow_nil _ _ _ _,fun i hi=>absurd hi (by simp)⟩,fun {v} hv=>?_⟩;have hum:um=v:=by
  cases hv with
  |osl _ _ u' hr' hp'=>
   rw[m1] at hr';simpa using hr'
  |oslOld _ _ g' u' v hr' hg=>
   rw[m1] at hr';simp only[Option.some.injEq,Prod.mk.injEq] at hr';omega
 subst hum;rcases m3 with ⟨⟨ad,rfl⟩,rfl⟩|⟨b,o,cap,f,rfl,hcap,hc,hl'⟩
 ·exact .slE t1 ad
 ·refine .sl t1 ys b o cap f ?_ hcap hc (fun i hi k hk=>h.oA m (gm+1) (.slice none 0 0) hsimp hold hw hsame hnew (hl' i hi k hk));obtain⟨q1,q2⟩:=(h.own m1).2 b rfl;refine⟨q2,h.aB1 m1 rfl,fun id g u hr hbl'=>?_⟩
  ·unfold bZ at hr;split at hr
   ·cases hr;cases hbl'
   ·rename_i hne;exact h.sep _ _ _ _ _ _ b m1 hr (fun e=>hne e.symm) rfl hbl'
theorem bK6 {C:Cfg U} (h:RR C.E n N w0 ρ s a w) {look:Nat->Option (aV U)} (hlook:∀id ob,look id=some ob->s.objs id=some ob)
  {t:TypeId} {τ:U.τ} (hτ:iD C t=some τ) {z:List (aB U)} (hz:zeroCells C.P (U.ety τ)=some z) {len:Nat} (hzl:z.length=U.size τ)
  {parts:List (Nat×aB U)} {parts':Array (Nat×Value)} (hpl:parts.length=parts'.size)
  (hp:∀k (h:k<parts.length) (h':k<parts'.toList.length),parts[k].1=parts'.toList[k].1/\Rel C.E w ρ (aM N ρ w) parts[k].2 parts'.toList[k].2)
  {cs:List Prop} {r:aB U} {ob:Option (Nat×aV U)} (ho:aLy look τ len parts=some (cs,r,ob)):
  ∃v' w' ρ',(Instr.buildSlice t len parts').run C.P w=.ok v' w'/\RR C.E n N w0 ρ' (s.fK ob) a w'/\Rel C.E w' ρ' (aM N ρ' w') r v':=by
 obtain⟨hu,i,hi,his⟩:=mH hτ;obtain⟨zv,hzr,hzsz,hzrel⟩:=pB (E:=C.E) (w:=w) (ρ:=ρ) hz;unfold aLy at ho;split at ho
 ·rename_i m gm;split at ho
  ·rename_i t1 gm' ys hlm;split at ho
   ·rename_i y hy;obtain⟨hb,ho⟩:=bI ho;cases ho;simp only[Bool.and_eq_true] at hb;obtain⟨⟨bV,cA⟩,gZ⟩:=hb;obtain rfl:=Nat.eq_of_beq_eq_true bV;obtain rfl:=Nat.eq_of_beq_eq_true cA;have hsz:=Nat.eq_of_beq_eq_true gZ;have hps:parts'.toList.length=1:=by simpa using hpl.symm
    obtain⟨q1,q2⟩:=hp 0 (by simp) (by omega);simp only[List.getElem_cons_zero] at q1 q2;obtain⟨⟨i0,v⟩,hpe⟩:∃x,parts'.toList=[x]:=List.length_eq_one_iff.1 hps;simp only[hpe,List.getElem_cons_zero] at q1 q2;subst q1;have hone:v.oneCell'=true:=sG h hlook q2 (by simp only[storable,hlm];exact Nat.beq_refl _);have hcu:v.cells=#[v]:=cells_one hone;have hpe':parts'=#[(0,v)]:=by rw[<- Array.toArray_toList (xs:=parts'),hpe]
    subst hpe';have hrow:((Array.range (1*1)).map (fun k=>zv.cells[k % zv.cells.size]!)).size=1:=by simp
    have hfill:Instr.fill (fun i=>some (i*1,1)) ((Array.range (1*1)).map (fun k=>zv.cells[k % zv.cells.size]!)) [(0,v)]=some #[v]:=by
     generalize (Array.range (1*1)).map (fun k=>zv.cells[k % zv.cells.size]!)=base at hrow;obtain⟨b0,rfl⟩:∃b0,base=#[b0]:=by
      obtain⟨l⟩:=base;simp only[List.size_toArray] at hrow;obtain⟨x,rfl⟩:=List.length_eq_one_iff.1 hrow;exact⟨x,rfl⟩
     simp[Instr.fill,hcu]
    obtain⟨hR,hv⟩:=h.aLl (hlook _ _ hlm);have hbel:Below w.heap.size w (w.alloc (.cells #[v] (U.ety τ))):=(Below.refl _ _).alloc (Nat.le_refl _) _;refine⟨.slice (some ⟨w.heap.size,0,none⟩) 1 1,w.alloc (.cells #[v] (U.ety τ)),_,?_,hR.ext hbel,?_⟩
    ·have iT:¬1*i.size > 2^24:=by rw[his,hsz];simp
     have h0:¬1*i.size=0:=by rw[his,hsz];simp
     rw[his,hsz] at iT h0;simp only[Instr.buildSlice,Sem.run_bind,run_underlying hu,Result.andThen_ok,sizeOf,typeInfo,run_program,hi,Sem.run_pure,his,hsz,if_neg iT,if_neg h0,hzr,hfill,newRow,run_newObj];rfl
    ·have hst:∀b,aM N (bZ ρ m (gm+1) (.slice none 0 0)) w b->aM N (bZ ρ m (gm+1) (.slice none 0 0)) (w.alloc (.cells #[v] (U.ety τ))) b/\(w.alloc (.cells #[v] (U.ety τ))).heap[b]?=w.heap[b]?:=fun b ⟨q1,q2,q3⟩=>
      ⟨⟨Nat.lt_of_lt_of_le q1 hbel.size,q2,q3⟩,hbel.block b q1⟩
     refine .sl τ [y] w.heap.size 0 1 (fun k=>if k=0 then v else undef) ⟨by simp,h.aJ2 (Nat.le_refl _),fun id g u hr hbl=>?_⟩ (by simp) (fun k hk=>?_) (fun j hj k hk=>?_)
     ·have:=(hR.own hr).2 _ hbl;omega
     ·have iI:k=0:=by simp only[List.length_singleton,hsz] at hk;omega
      subst iI;rw[Nat.zero_add,cell_of_row (w.alloc (.cells #[v] (U.ety τ))) w.heap.size 0 #[v] (U.ety τ) (0,0) (heap_alloc_new w _)];rfl
     ·have lF:j=0:=by simp only[List.length_singleton] at hj;omega
      subst lF;have hey:=C.E.unsl_ok _ _ _ _ hy;have iI:k=0:=by
       simp only[List.getElem_cons_zero,C.E.enc_len,hsz] at hk;omega
      subst iI;have e1:(C.E.enc τ [y][0])[0]=.sl t1 ys:=by
       simp only[List.getElem_cons_zero,hey]
      rw[e1,Nat.zero_mul,Nat.add_zero,if_pos rfl];exact(hv q2).mono hst (fun _ _ _ hr=>.inl hr)
   ·cases ho
  ·cases ho
 ·cases ho
end
end Go.Vm
namespace Go.Vm
open Go.RowKit
set_option linter.unusedVariables false
section
variable {U:dH} {n:Nat} {N:Nat->Prop} {w0:Fr} {w w':World} {ρ ρ':Own} {s:ASt U} {a:Act}
theorem aN4 {E:Enc U} {st st':Nat->Prop} {r:aB U} {v:Value} (hr:aIp r=true) (h:Rel E w ρ st r v):Rel E w' ρ' st' r v:=by
 cases r with
 |agg l=>
  cases h with
  |agg _ vs hn hl=>exact .agg l vs hn (fun k hk=>(hl k hk).pure (List.all_eq_true.1 hr _ (List.getElem_mem hk)))
 |_=>exact h.pure hr
theorem bBc {E:Enc U} {st st':Nat->Prop} {r:aB U} {v:Value} (hr:r.sU=true) (h:Rel E w ρ st r v):Rel E w' ρ' st' r v:=by
 cases r with
 |tup l=>
  cases h with
  |tup _ vs hn hl=>exact .tup l vs hn (fun k hk=>aN4 (List.all_eq_true.1 hr _ (List.getElem_mem hk)) (hl k hk))
 |_=>exact aN4 hr h
theorem eG.closed {E:Enc U} {st st':Nat->Prop} {base id id':Nat} {ob:aV U} (hc:ob.closed=true) (h1:ρ' (.ob id')=ρ (.ob id)) (h2:∀j,ρ' (.mem id' j)=ρ (.mem id j))
  (hst:∀b,st b->st' b) (h:eG E w ρ st base id ob):eG E w ρ' st' base id' ob:=by
 have fl:∀{x:aB U} {v:Value},x.flat=true->Rel E w ρ st x v->Rel E w ρ' st' x v:=fun hx hv=>
  (hv.flat (ρ':=bU) hx).mono (fun b hb=>⟨hst b hb,rfl⟩) (fun _ _ _ hr=>by cases hr)
 cases ob with
 |cells l=>
  obtain⟨b,c,ty,q1,q2,q3,q4,q5⟩:=h;exact⟨b,c,ty,by rw[h1];exact q1,q2,q3,q4,fun k hk=>fl (List.all_eq_true.1 hc _ (List.getElem_mem hk)) (q5 k hk)⟩
 |row t g xs=>
  obtain⟨u,cs,q1,hp,q2,q3⟩:=h;exact⟨u,cs,by rw[h1];exact q1,hp,q2,fun i h k hk=>fl (E.enc_flat t _ _ (List.getElem_mem hk)).1 (q3 i h k hk)⟩
 |rowF t g xs i m gm=>cases hc
 |deep t g gm xs=>
  obtain⟨u,cs,q1,hp,q2,hs,hm,q3⟩:=h;refine⟨u,cs,by rw[h1];exact q1,hp,q2,hs,fun j hj=>by rw[h2];exact hm j hj,fun j hj=>?_⟩;obtain⟨t1,ys,v,ds,r1,r2,r3,r4,r5,r6⟩:=q3 j hj;exact⟨t1,ys,v,ds,r1,by rw[h2];exact r2,r3,r4,r5,fun i hi k hk=>fl (E.enc_flat t1 _ _ (List.getElem_mem hk)).1 (r6 i hi k hk)⟩
 |deepS t g gm xs i=>cases hc
 |deepF t g gm xs m gq=>cases hc
 |one t g m gm=>cases hc
 |gone g gm n=>
  exact⟨by rw[h1];exact h.1,fun j hj=>by rw[h2];exact h.2.1 j hj,fun j hj=>by rw[h2];exact h.2.2 j hj⟩
 |opq k d=>
  show E.rep k d w base (ρ' (.ob id')) (fun j=>ρ' (.mem id' j));rw[h1,show (fun j=>ρ' (.mem id' j))=fun j=>ρ (.mem id j) from funext h2];exact h
def only(ρ:Own) (id k0:Nat):Own:=fun nm=>if nm.id=k0 then ρ (nm.at id) else none
def aAX (ρ ρ':Own) (id k0:Nat):Own:=fun nm=>if nm.id=id then ρ' (nm.at k0) else ρ nm
theorem aE9 (ρ:Own) (id k0:Nat):only ρ id k0 (.ob k0)=ρ (.ob id):=if_pos rfl
theorem bCY (ρ:Own) (id k0 j:Nat):only ρ id k0 (.mem k0 j)=ρ (.mem id j):=if_pos rfl
theorem tC {ρ:Own} {id k0:Nat} {nm:Name} {g:Nat} {u:Value} (h:only ρ id k0 nm=some (g,u)):nm.id=k0/\ρ (nm.at id)=some (g,u):=by
 unfold only at h;split at h
 ·exact⟨‹_›,h⟩
 ·cases h
theorem bIM {E:Enc U} {st:Nat->Prop} {id k0:Nat} {x y:aB U} {v:Value} (h:aGM id k0 x=some y) (hx:Rel E w ρ st x v):Rel E w (only ρ id k0) st y v:=by
 have fl:∀{x:aB U} {v:Value},x.flat=true->Rel E w ρ st x v->Rel E w (only ρ id k0) st x v:=fun hx hv=>hv.flat hx
 unfold aGM at h;split at h
 ·rename_i i off;obtain⟨hb,h⟩:=bI h;cases h;obtain rfl:=Nat.eq_of_beq_eq_true hb;cases hx with
  |ptr _ _ b hp=>exact .ptr _ _ b (by rw[aE9];exact hp)
 ·rename_i i g;obtain⟨hb,h⟩:=bI h;cases h;obtain rfl:=Nat.eq_of_beq_eq_true hb;cases hx with
  |osl _ _ _ hp hq=>exact .osl _ _ _ (by rw[aE9];exact hp) hq
  |oslOld _ _ g' u _ hp hg=>exact .oslOld _ _ g' u _ (by rw[aE9];exact hp) hg
 ·rename_i l;obtain⟨hb,h⟩:=bI h;cases h;cases hx with
  |agg _ vs hn hl=>exact .agg l vs hn (fun k hk=>fl (List.all_eq_true.1 hb _ (List.getElem_mem hk)) (hl k hk))
 ·obtain⟨hb,h⟩:=bI h;cases h;unfold aB.aAN at hb;split at hb
  ·cases hx with
   |fn _ _ vs hn hl=>exact .fn _ [] vs hn (fun k hk=>absurd hk (by simp))
  ·exact fl hb hx
theorem bIK {E:Enc U} {st:Nat->Prop} {id k0:Nat}:∀(xs ys:List (aB U)) (args:List Value),aAP id k0 xs=some ys->args.length=xs.length->(∀k (h:k<xs.length),Rel E w ρ st xs[k] (args.getD k undef))->
  ys.length=xs.length/\∀k (h:k<ys.length),Rel E w (only ρ id k0) st ys[k] (args.getD k undef):=by
 intro xs
 induction xs with
 |nil=>
  intro ys args h _ _;cases h;exact⟨rfl,fun k hk=>absurd hk (by simp)⟩
 |cons x l ih=>
  intro ys args h hn hx;simp only[aAP] at h;split at h
  ·rename_i y m hy hm;cases h
   match args,hn with
   |v::vs,hn=>
    obtain⟨h1,h2⟩:=ih m vs hm (by simpa using hn) (fun k hk=>hx (k+1) (by simpa using hk));refine⟨by simp[h1],fun k hk=>?_⟩;cases k with
    |zero=>exact bIM hy (hx 0 (by simp))
    |succ k=>exact h2 k (by simpa using hk)
  ·cases h
theorem bIL {id k0:Nat}:∀(xs ys:List (aB U)) (j:Nat),ownArg j xs=some (k0,id)->aAP id k0 xs=some ys->ownArg j ys=some (k0,k0):=by
 intro xs
 induction xs with
 |nil=>intro ys j h;cases h
 |cons x l ih=>
  intro ys j h hy;simp only[aAP] at hy;split at hy
  ·rename_i y m jJ hm;cases hy;unfold aGM at jJ;split at jJ
   ·obtain⟨hb,q⟩:=bI jJ;cases q;cases h;rfl
   ·obtain⟨hb,q⟩:=bI jJ;cases q;cases h;rfl
   ·obtain⟨hb,q⟩:=bI jJ;cases q;exact ih m (j+1) h hm
   ·rename_i hn1 hn2 _;obtain⟨hb,q⟩:=bI jJ;cases q;have e1:ownArg j (x::l)=ownArg (j+1) l:=by
     cases x<;>first|rfl|exact absurd rfl (hn1 _ _)|exact absurd rfl (hn2 _ _)
    have e2:ownArg j (x::m)=ownArg (j+1) m:=by
     cases x<;>first|rfl|exact absurd rfl (hn1 _ _)|exact absurd rfl (hn2 _ _)
    rw[e1] at h;rw[e2];exact ih m (j+1) h hm
  ·cases hy
theorem bIJ {id k0:Nat} {r:aB U} (h:r.sU=true):aLa id k0 r=r:=by
 cases r<;>first|rfl| (cases h;done)
theorem bII {C:Cfg U} (hs:fR C w0) (h:RR C.E n N w0 ρ s a w) {look:Nat->Option (aV U)} (hlook:∀id ob,look id=some ob->s.objs id=some ob) {f:FuncId}
  {m:List (aB U)->aV U->Option (List Prop×aB U×aV U)} (hm:C.eff f=some m) {xs:List (aB U)} {args:Array Value} (hn:args.size=xs.length) (hx:∀k (h:k<xs.length),Rel C.E w ρ (aM N ρ w) xs[k] (args.getD k undef))
  {cs:List Prop} {r:aB U} {ob:Option (Nat×aV U)} (ho:aL9 look m xs=some (cs,r,ob)) (hc:dE cs):
  (callFunc f args).run C.P w=.ok (.enter f args) w/\Calls C.P f args w fun e w'=>∃v,e=.returned v/\∃ρ',RR C.E n N w0 ρ' (s.fK ob) a w'/\Rel C.E w' ρ' (aM N ρ' w') r v:=by
 unfold aL9 at ho;split at ho
 ·rename_i k0 id hown;split at ho
  ·rename_i ob0 hl;split at ho
   ·rename_i ys hys;split at ho
    ·rename_i gD r1 tE hmr;obtain⟨hb,ho⟩:=bI ho;cases ho;simp only[Bool.and_eq_true] at hb;obtain⟨⟨lT,jN⟩,hpr⟩:=hb;obtain⟨hcall,hsum⟩:=hs.2 f m hm;refine⟨hcall args w,?_⟩;have hob:=h.objs _ _ (hlook _ _ hl);obtain⟨jJ,hy2⟩:=bIK (E:=C.E) (st:=aM N ρ w) xs ys args.toList hys (by simpa using hn) (fun k hk=>by
      have:=hx k hk;simpa using this)
     have hdom:∀nm:Name,nm.id=id->∀g u,ρ nm=some (g,u)->ob0.simple=true->nm=.ob id:=fun nm hnm g u hr hsi=>by
      obtain⟨o,q1,q2⟩:=h.dom _ _ _ hr;rw[hnm,hlook _ _ hl] at q1;obtain rfl:=Option.some.inj q1;obtain⟨i,rfl⟩:=q2 hsi;rw[show i=id from hnm]
     refine(hsum (aM N ρ w) (only ρ id k0) w args k0 ys ob0 tE cs r1 h.below (fun b hb=>⟨hb.1,fun nm g u hr=>hb.2.2 _ _ _ (tC hr).2⟩) (fun nm g u hr=>?_) (fun nm nm' g g' u u' b hr hr' hne hb=>?_)
      (hob.closed lT (aE9 ρ id k0) (bCY ρ id k0) (fun _ h=>h)) (by rw[hn,jJ]) (fun k hk=>by simpa using hy2 k hk) lT hmr hc jN hpr (bIL _ _ _ hown hys)).mono ?_
     ·obtain⟨q1,q2⟩:=tC hr;refine⟨q1,fun hsi=>?_⟩;have:=hdom _ (Name.lZ id nm) _ _ q2 hsi;cases nm with
      |ob i=>rw[show i=k0 from q1]
      |mem i j=>cases this
     ·obtain⟨q1,q2⟩:=tC hr;obtain⟨q3,q4⟩:=tC hr';exact h.sep _ _ _ _ _ _ b q2 q4 (fun e=>hne (Name.aHi (q1.trans q3.symm) e)) hb
     ·rintro e w' ⟨v,ρ1,rfl,hv,hob1,hd1,hch⟩
      have o1:∀nm:Name,nm.id=id->only ρ id k0 (nm.at k0)=ρ nm:=fun nm hnm=>by
       unfold only;rw[if_pos (Name.lZ k0 nm)];cases nm with
       |ob i=>rw[show i=id from hnm];rfl
       |mem i j=>rw[show i=id from hnm];rfl
      have b1:∀nm:Name,nm.id=id->aAX ρ ρ1 id k0 nm=ρ1 (nm.at k0):=fun nm hnm=>if_pos hnm
      have c:Chg N (fun i=>i=id) w0.heap.size ρ (aAX ρ ρ1 id k0) w w':=by
       refine⟨fun nm hnm=>if_neg hnm,fun nm g u hnm hr=>?_,hch.below,fun b hb hne=>?_,fun nm g u b hnm hr hbl=>?_,fun nm nm' g g' u u' b hnm hnm' hr hr' hne hbl=>?_⟩
       ·rw[b1 nm hnm];exact hch.mono (nm.at k0) g u (Name.lZ k0 nm) (by rw[o1 nm hnm];exact hr)
       ·exact hch.same b hb (fun nm g u hnm hr=>hne (nm.at id) g u (Name.lZ id nm) (tC hr).2)
       ·rw[b1 nm hnm] at hr;rcases hch.new _ g u b (Name.lZ k0 nm) hr hbl with ⟨nm',g',u',hnm',hr',hbl'⟩|hge
        ·exact .inl ⟨nm'.at id,g',u',Name.lZ id nm',(tC hr').2,hbl'⟩
        ·exact .inr hge
       ·rw[b1 nm hnm] at hr;rw[b1 nm' hnm'] at hr';exact hch.sep _ _ _ _ _ _ b (Name.lZ k0 nm) (Name.lZ k0 nm') hr hr' (fun e=>hne (Name.aHi (show nm.id=nm'.id from hnm.trans hnm'.symm) e)) hbl
      have hst:∀b,((aM N ρ w b\/w.heap.size<=b\/∃nm g u,only ρ id k0 nm=some (g,u)/\blk u=some b)/\b<w'.heap.size/\∀nm g u,ρ1 nm=some (g,u)->blk u≠some b)->aM N (aAX ρ ρ1 id k0) w' b:=by
       rintro b ⟨q1,q2,q3⟩
       refine⟨q2,?_,fun nm g u hr hbl=>?_⟩
       ·rcases q1 with q1|q1|⟨nm,g,u,hr,hbl⟩
        ·exact q1.2.1
        ·exact h.aJ2 q1
        ·exact h.aB1 (tC hr).2 hbl
       ·by_cases hnm:nm.id=id
        ·rw[b1 nm hnm] at hr;exact q3 _ _ _ hr hbl
        ·have kA:ρ nm=some (g,u):=by rw[<- hr];exact(if_neg hnm).symm
         rcases q1 with q1|q1|⟨nm',g',u',hr',hbl'⟩
         ·exact q1.2.2 _ _ _ kA hbl
         ·have:=((h.own kA).2 b hbl).2;omega
         ·exact h.sep _ _ _ _ _ _ b kA (tC hr').2 (fun e=>by subst e;exact hnm (Name.lZ id nm')) hbl hbl'
      have hob2:eG C.E w' (aAX ρ ρ1 id k0) (aM N (aAX ρ ρ1 id k0) w') w0.heap.size id tE:=
       hob1.closed jN (b1 (.ob id) rfl) (fun j=>b1 (.mem id j) rfl) hst
      refine⟨v,rfl,aAX ρ ρ1 id k0,h.change c rfl (fun i hi=>?_) (fun nm g u hnm hr=>?_) (fun i o hi hio=>?_) (fun i o hi _=>⟨tE,by
       rw[hi];show cond (Nat.beq id id) _ _=_;rw[Nat.beq_refl];rfl⟩),?_⟩
      ·show cond (Nat.beq i id) _ _=_;rw[fG hi];rfl
      ·have e:(s.fK (some (id,tE))).objs nm.id=some tE:=by
        show cond (Nat.beq nm.id id) _ _=_;rw[hnm,Nat.beq_refl];rfl
       refine⟨tE,e,fun hsi=>?_⟩;rw[b1 nm hnm] at hr;have:=(hd1 _ _ _ hr).2 hsi;cases nm with
       |ob i=>exact⟨i,rfl⟩
       |mem i j=>cases this
      ·subst hi;have e:(s.fK (some (i,tE))).objs i=some tE:=by
        show cond (Nat.beq i i) _ _=_;rw[Nat.beq_refl];rfl
       rw[e] at hio;obtain rfl:=Option.some.inj hio;exact hob2
      ·cases hpp:r1.sU with
       |true=>
        rw[bIJ hpp];exact bBc hpp (hv.1 hpp)
       |false=>
        rw[hpp,Bool.false_or] at hpr;have iR:=hv.2 hpr;unfold w6 at hpr;split at hpr
        ·rename_i k g1 t g2 xs0;simp only[Bool.and_eq_true] at hpr;obtain rfl:=Nat.eq_of_beq_eq_true hpr.1;obtain rfl:=Nat.eq_of_beq_eq_true hpr.2;have e0:aLa id k (.osl k g1:aB U)=.osl id g1:=by
          show cond (Nat.beq k k) _ _=_;rw[Nat.beq_refl];rfl
         rw[e0];obtain⟨u2,cs2,p1,p2,_⟩:=hob1;cases iR with
         |osl _ _ u' hr' hp'=>exact .osl id g1 v (by rw[b1 (.ob id) rfl];exact hr') hp'
         |oslOld _ _ g' u' v hr' hg=>
          rw[p1] at hr';simp only[Option.some.injEq,Prod.mk.injEq] at hr';omega
        ·cases hpr
    ·cases ho
   ·cases ho
  ·cases ho
 ·cases ho
end
end Go.Vm
namespace Go.Vm
open Go.RowKit
set_option linter.unusedVariables false
section
variable {U:dH} {n:Nat} {N:Nat->Prop} {w0:Fr} {w w':World} {ρ ρ':Own} {s:ASt U} {a:Act}
theorem sY {E:Enc U} (h:RR E n N w0 ρ s a w) (parts:Array (Nat×Operand)):∀k (h1:k<(parts.toList.map fun p=>(p.1,s.eval p.2)).length) (h':k<(parts.map fun (p:Nat×Operand)=>(p.1,a.eval p.2)).toList.length),
  (parts.toList.map fun p=>(p.1,s.eval p.2))[k].1=(parts.map fun (p:Nat×Operand)=>(p.1,a.eval p.2)).toList[k].1/\
   Rel E w ρ (aM N ρ w) (parts.toList.map fun p=>(p.1,s.eval p.2))[k].2 (parts.map fun (p:Nat×Operand)=>(p.1,a.eval p.2)).toList[k].2:=by
 intro k h1 h';simp only[List.getElem_map,Array.getElem_toList,Array.getElem_map];exact⟨trivial,h.eval _⟩
theorem bAh {E:Enc U} {st:Nat->Prop}:∀(l:List (aB U)) (vs:List Value),aER l=some vs->∀(ws:List Value),ws.length=l.length->(∀k (h:k<l.length),Rel E w ρ st l[k] (ws.getD k undef))->ws=vs:=by
 intro l
 induction l with
 |nil=>
  intro vs h ws hn _;cases h;exact List.length_eq_zero_iff.1 hn
 |cons x l ih=>
  intro vs h ws hn hr
  match ws,hn with
  |v::ws,hn=>
   have h0:=hr 0 (by simp);simp only[List.getElem_cons_zero,List.getD_cons_zero] at h0;cases x<;>simp only[aER] at h<;>(try (cases h;done))
   split at h
   ·rename_i k n vs' hvs;cases h;cases h0;rw[ih _ hvs ws (by simpa using hn) (fun k hk=>hr (k+1) (by simpa using hk))]
   ·cases h
theorem aV4 {E:Enc U} {ρ':Own} {st:Nat->Prop} {x:aB U} {v:Value} (hx:x.aAN=true) (h:Rel E w ρ st x v):Rel E w ρ' st x v:=by
 unfold aB.aAN at hx;split at hx
 ·cases h with
  |fn f0 _ vs hn hl=>exact .fn _ [] vs hn (fun k hk=>absurd hk (by simp))
 ·exact h.flat hx
theorem bGv {E:Enc U} {ρ':Own} {st:Nat->Prop} {x:aB U} {v:Value} (hx:x.aCZ=true) (h:Rel E w ρ st x v):Rel E w ρ' st x v:=by
 unfold aB.aCZ at hx;split at hx
 ·rename_i l;cases h with
  |agg _ vs hn hl=>exact .agg l vs hn (fun k hk=>aV4 (List.all_eq_true.1 hx _ (List.getElem_mem hk)) (hl k hk))
 ·exact aV4 hx h
theorem aWM {C:Cfg U} (hs:fR C w0) (h:RR C.E n N w0 ρ s a w) {look:Nat->Option (aV U)} (hlook:∀id ob,look id=some ob->s.objs id=some ob) {o:Oper}
  (hfresh:∀d,o.dst=some d->look (C.off+d)=none->s.objs (C.off+d)=none) (hd:∀d,o.dst=some d->d<n) {cs:List Prop} {r:aB U} {ob:Option (Nat×aV U)} (ho:aop C o s.eval look=some (cs,r,ob)) (hc:dE cs)
  {K:Act->World->Prop} {Q:Exit->Act->World->Prop} (hK:∀ρ' u w',RR C.E n N w0 ρ' ((s.fK ob).put o.dst r) (a.put o.dst u) w'->K (a.put o.dst u) w'):o.wp C.P a w K Q:=by
 have hstor:∀(x:aB U) v,Rel C.E w ρ (aM N ρ w) x v->storable look x=true->v.oneCell'=true:=fun x v hx hsx=>sG h hlook hx hsx
 -- a value, the world as it was
 have same:∀{u:Value},(execOp a.eval o).run C.P w=.ok (.value u) w->Rel C.E w ρ (aM N ρ w) r u->ob=none->o.wp C.P a w K Q:=fun hr hu hob=>by
  subst hob;exact hJ hr (hK ρ _ w (h.put o.dst hd hu))
 obtain⟨dst,op,ty,pos,after,guard⟩:=o;unfold aop at ho
 try simp only at ho
 try simp only at hK
 try simp only at hd
 try simp only at hfresh
 cases op<;>(try simp only at ho)<;>(try (cases ho;done))
 case move x=>
  simp only[val,Option.some.injEq,Prod.mk.injEq] at ho;obtain⟨rfl,rfl,rfl⟩:=ho;exact same rfl (h.eval x) rfl
 case assign x=>
  simp only[val,Option.some.injEq,Prod.mk.injEq] at ho;obtain⟨rfl,rfl,rfl⟩:=ho;exact same rfl (h.eval x) rfl
 case pick c x y=>
  have hcr:=h.eval c;have hxr:=h.eval x;have hyr:=h.eval y;have hrun:∀b,a.eval c=.bool b->(execOp a.eval {dst:=dst,op:=.pick c x y,type:=ty,pos:=pos,after:=after,guard:=guard}).run C.P w=.ok (.value (if b then a.eval x else a.eval y)) w:=fun b hb=>by
   simp[execOp,hb,asBool]
  split at ho
  ·rename_i b bx byv jN gU jJ;simp only[val,Option.some.injEq,Prod.mk.injEq] at ho;obtain⟨rfl,rfl,rfl⟩:=ho;rw[jN] at hcr;rw[gU] at hxr;rw[jJ] at hyr;generalize hce:a.eval c=vc at hcr;cases hcr;refine same (hrun _ hce) ?_ rfl;generalize a.eval x=vx at hxr;generalize a.eval y=vy at hyr;cases hxr;cases hyr;cases b<;>exact .bool _
  ·rename_i b jN _;rw[jN] at hcr;generalize hce:a.eval c=vc at hcr;cases hcr;cases b
   ·simp only[val,Option.some.injEq,Prod.mk.injEq] at ho;obtain⟨rfl,rfl,rfl⟩:=ho;exact same (hrun _ hce) hyr rfl
   ·simp only[val,Option.some.injEq,Prod.mk.injEq] at ho;obtain⟨rfl,rfl,rfl⟩:=ho;exact same (hrun _ hce) hxr rfl
  ·cases ho
 case alloc t=>
  split at ho
  ·rename_i d;split at ho
   ·rename_i hl;split at ho
    ·rename_i x hx;simp only[Option.some.injEq,Prod.mk.injEq] at ho;obtain⟨rfl,rfl,rfl⟩:=ho;obtain⟨w',ρ',hrun,hR,hp⟩:=bLP h (hfresh d rfl hl) hx;refine hJ (u:=.pointer (some ⟨w.heap.size,0,none⟩)) (w':=w') ?_ (hK ρ' _ w' (hR.put (some d) hd (.ptr (C.off+d) 0 _ hp)));simp[execOp,hrun]
    ·split at ho
     ·rename_i l hz;simp only[Option.some.injEq,Prod.mk.injEq] at ho;obtain⟨rfl,rfl,rfl⟩:=ho;obtain⟨w',ρ',hrun,hR,hp⟩:=bLO h (hfresh d rfl hl) hz;refine hJ (u:=.pointer (some ⟨w.heap.size,0,none⟩)) (w':=w') ?_ (hK ρ' _ w' (hR.put (some d) hd (.ptr (C.off+d) 0 _ hp)));simp[execOp,hrun]
     ·cases ho
   ·cases ho
  ·cases ho
 case box t x=>
  split at ho
  ·rename_i d;split at ho
   ·rename_i hl;have hbb:=bI ho;clear ho;obtain⟨hb,ho⟩:=hbb;simp only[Option.some.injEq,Prod.mk.injEq] at ho;obtain⟨rfl,rfl,rfl⟩:=ho;obtain⟨w',ρ',hrun,hR,hp⟩:=bK7 (P:=C.P) h hlook (hfresh d rfl hl) t (h.eval x) hb;refine hJ (u:=.pointer (some ⟨w.heap.size,0,none⟩)) (w':=w') ?_ (hK ρ' _ w' (hR.put (some d) hd (.ptr (C.off+d) 0 _ hp)));show ((do pure (Next.value (<- Instr.box t (a.eval x)))):Sem Next).run C.P w=_;simp only[Sem.run_bind,hrun,Result.andThen_ok,Sem.run_pure]
   ·cases ho
  ·cases ho
 case build t parts=>
  split at ho
  ·rename_i pl z hpl hz;split at ho
   ·rename_i l hl;simp only[val,Option.some.injEq,Prod.mk.injEq] at ho;obtain⟨rfl,rfl,rfl⟩:=ho;obtain⟨q,hrun,hq⟩:=bK3 (E:=C.E) (w:=w) (ρ:=ρ) hstor hpl hz (parts':=parts.map fun (p:Nat×Operand)=>(p.1,a.eval p.2)) (by simp) (sY h parts) hl;refine same ?_ hq rfl;show ((do pure (Next.value (<- Instr.build t (parts.map fun (p:Nat×Operand)=>(p.1,a.eval p.2)))):Sem Next)).run C.P w=_;simp only[Sem.run_bind,hrun,Result.andThen_ok,Sem.run_pure]
   ·cases ho
  ·cases ho
 case buildSlice t len parts=>
  split at ho
  ·rename_i d τ hτ;split at ho
   ·rename_i z hl hz;have hbb:=bI ho;clear ho;obtain⟨hb,ho⟩:=hbb;simp only[Bool.and_eq_true] at hb;split at ho
    ·rename_i l hfl;split at ho
     ·rename_i xs hxs;cases hpu:C.pur with
      |true=>
       rw[hpu,cond_true] at ho;simp only[Option.some.injEq,Prod.mk.injEq] at ho;obtain⟨rfl,rfl,rfl⟩:=ho;obtain⟨q,w',hrun,hR,hq⟩:=bK4 h hlook hτ hz (Nat.eq_of_beq_eq_true hb.1) (Nat.le_of_ble_eq_true hb.2) (parts':=parts.map fun (p:Nat×Operand)=>(p.1,a.eval p.2)) (by simp) (sY h parts) hfl hxs;refine hJ (u:=q) (w':=w') ?_ (hK ρ _ w' (hR.put (some d) hd hq));show ((do pure (Next.value (<- Instr.buildSlice t len (parts.map fun (p:Nat×Operand)=>(p.1,a.eval p.2)))):Sem Next)).run C.P w=_;simp only[Sem.run_bind,hrun,Result.andThen_ok,Sem.run_pure]
      |false=>
      rw[hpu,cond_false] at ho;split at ho
      ·simp only[Option.some.injEq,Prod.mk.injEq] at ho;obtain⟨rfl,rfl,rfl⟩:=ho;obtain⟨q,w',ρ',hrun,hR,hq⟩:=aWB h hlook (hfresh d rfl hl) hτ hz (Nat.eq_of_beq_eq_true hb.1) (Nat.le_of_ble_eq_true hb.2) (parts':=parts.map fun (p:Nat×Operand)=>(p.1,a.eval p.2)) (by simp) (sY h parts) hfl hxs;refine hJ (u:=q) (w':=w') ?_ (hK ρ' _ w' (hR.put (some d) hd hq));show ((do pure (Next.value (<- Instr.buildSlice t len (parts.map fun (p:Nat×Operand)=>(p.1,a.eval p.2)))):Sem Next)).run C.P w=_;simp only[Sem.run_bind,hrun,Result.andThen_ok,Sem.run_pure]
      ·obtain⟨_,ho⟩:=aLw ho;simp only[Option.some.injEq,Prod.mk.injEq] at ho;obtain⟨rfl,rfl,rfl⟩:=ho;obtain⟨q,w',ρ',hrun,hR,hq⟩:=aWB h hlook (hfresh d rfl hl) hτ hz (Nat.eq_of_beq_eq_true hb.1) (Nat.le_of_ble_eq_true hb.2) (parts':=parts.map fun (p:Nat×Operand)=>(p.1,a.eval p.2)) (by simp) (sY h parts) hfl hxs;obtain⟨hR2,iR⟩:=hR.aLl (m:=C.off+d) (gm:=0) (t1:=τ) (ys:=xs) (by simp[ASt.obj]);have e:(s.obj (C.off+d) (.row τ 0 xs)).obj (C.off+d) (.row τ (0+1) [])=s.obj (C.off+d) (.row τ 1 []):=by
        simp only[ASt.obj,ASt.mk.injEq,true_and];funext q;cases Nat.beq q (C.off+d)<;>rfl
       rw[e] at hR2;refine hJ (u:=q) (w':=w') ?_ (hK _ _ w' (hR2.put (some d) hd (iR hq)));show ((do pure (Next.value (<- Instr.buildSlice t len (parts.map fun (p:Nat×Operand)=>(p.1,a.eval p.2)))):Sem Next)).run C.P w=_;simp only[Sem.run_bind,hrun,Result.andThen_ok,Sem.run_pure]
     ·obtain⟨_,ho⟩:=aLw ho;obtain⟨q,w',ρ',hrun,hR,hq⟩:=bK6 h hlook hτ hz (Nat.eq_of_beq_eq_true hb.1) (parts':=parts.map fun (p:Nat×Operand)=>(p.1,a.eval p.2)) (by simp) (sY h parts) ho;refine hJ (u:=q) (w':=w') ?_ (hK ρ' _ w' (hR.put (some d) hd hq));show ((do pure (Next.value (<- Instr.buildSlice t len (parts.map fun (p:Nat×Operand)=>(p.1,a.eval p.2)))):Sem Next)).run C.P w=_;simp only[Sem.run_bind,hrun,Result.andThen_ok,Sem.run_pure]
    ·cases ho
   ·cases ho
  ·cases ho
 case makeSlice t x y=>
  split at ho
  ·rename_i d τ hτ;split at ho
   ·rename_i z i hl hz hi;split at ho
    ·rename_i e k c k' m he hx hy;obtain⟨hb,ho⟩:=bI ho;simp only[Bool.and_eq_true] at hb;split at ho
     ·cases ho
     simp only[Option.some.injEq,Prod.mk.injEq] at ho;obtain⟨rfl,rfl,rfl⟩:=ho;obtain⟨lT,rfl,qE⟩:=hc;have hxr:=h.eval x;have hyr:=h.eval y;rw[hx] at hxr;rw[hy] at hyr;obtain⟨q,w',ρ',hrun,hR,hq⟩:=bEt h (hfresh d rfl hl) hτ hz (Nat.eq_of_beq_eq_true hb.1) he hi (Nat.le_of_ble_eq_true hb.2) (k:=k) (k':=k') lT qE;refine hJ (u:=q) (w':=w') ?_ (hK ρ' _ w' (hR.put (some d) hd hq));generalize hxe:a.eval x=vx at hxr;generalize hye:a.eval y=vy at hyr;cases hxr;cases hyr;show ((do pure (Next.value (<- Instr.makeSlice t (a.eval x) (a.eval y))):Sem Next)).run C.P w=_;rw[hxe,hye];simp only[Sem.run_bind,hrun,Result.andThen_ok,Sem.run_pure]
    ·cases ho
   ·cases ho
  ·cases ho
 case load t p=>
  split at ho
  ·rename_i l off hb;obtain⟨b,o',f,hv,hat⟩:=aWD h hlook (h.eval p) hb;unfold val? at ho;split at ho
   ·rename_i x hx;simp only[Option.some.injEq,Prod.mk.injEq] at ho;obtain⟨rfl,rfl,rfl⟩:=ho;obtain⟨u,hrun,hu⟩:=aR2 hx hat;refine same ?_ hu rfl;simp only[execOp,hv,Instr.loadAt,Instr.sureAddr,Sem.run_bind,Sem.run_pure,Result.andThen_ok,hrun]
   ·cases ho
  ·obtain⟨hob,ad,u,hv,hrun,hu⟩:=bFI (P:=C.P) h hlook (h.eval p) ho hc;refine same ?_ hu hob;simp only[execOp,hv,Instr.loadAt,Instr.sureAddr,Sem.run_bind,Sem.run_pure,Result.andThen_ok,hrun]
 case store t p x=>
  split at ho
  ·rename_i m hm;have hbb:=bI ho;clear ho;obtain⟨hb,ho⟩:=hbb;split at ho
   ·rename_i ob' hob;simp only[Option.some.injEq,Prod.mk.injEq] at ho;obtain⟨rfl,rfl,rfl⟩:=ho;obtain⟨id,obj⟩:=ob';obtain⟨w',ρ',hrun,hR⟩:=aYT (P:=C.P) h hlook (h.eval p) (h.eval x) hob hm (Nat.eq_of_beq_eq_true hb);refine aHz (w':=w') ?_ (hK ρ' _ w' (hR.put dst hd (.raw _)));simp[execOp,hrun]
   ·split at ho
    ·rename_i ob' hob;simp only[Option.some.injEq,Prod.mk.injEq] at ho;obtain⟨rfl,rfl,rfl⟩:=ho;obtain⟨id,obj⟩:=ob';have h1:(s.eval x).cellsOf.length=1:=bGr hob;obtain⟨w',ρ',hrun,hR⟩:=bGq (P:=C.P) h hlook (h.eval p) (h.eval x) hob (t:=t) (by rw[hm,<- Nat.eq_of_beq_eq_true hb,h1]);refine aHz (w':=w') ?_ (hK ρ' _ w' (hR.put dst hd (.raw _)));simp[execOp,hrun]
    ·cases ho
  ·cases ho
 case binOp op xt x y yt=>
  split at ho
  ·rename_i r' hab;simp only[val,Option.some.injEq,Prod.mk.injEq] at ho;obtain⟨rfl,rfl,rfl⟩:=ho;obtain⟨q,hrun,hq⟩:=bLS (P:=C.P) (a:=a) (X:=x) (h.eval x) hab;refine same ?_ hq rfl;simp only[execOp,Sem.run_bind] at hrun ⊢;rw[hrun];rfl
  ·split at ho
   ·rename_i cs' r' hab;simp only[Option.some.injEq,Prod.mk.injEq] at ho;obtain⟨rfl,rfl,rfl⟩:=ho;obtain⟨q,hrun,hq⟩:=bL0 (C:=C) (t:=xt) (X:=x) (Y:=y) (h.eval x) (h.eval y) hab hc;refine same ?_ hq rfl;simp only[execOp,Sem.run_bind] at hrun ⊢;rw[hrun];rfl
   ·cases ho
 case convert src dt x=>
  split at ho
  ·rename_i d1 k k1 n1 hsr hdt hxe;simp only[val,Option.some.injEq,Prod.mk.injEq] at ho;obtain⟨rfl,rfl,rfl⟩:=ho;have hxr:=h.eval x;rw[hxe] at hxr;generalize hve:a.eval x=vx at hxr;cases hxr;refine same (u:=.int k (k.wrap n1)) ?_ (.int _ _) rfl;simp[execOp,convert,run_underlying hsr,run_underlying hdt,Conv.intToInt,hve]
  ·cases ho
 case unOp op xt x=>
  unfold val? at ho;split at ho
  ·rename_i r' hab;simp only[Option.some.injEq,Prod.mk.injEq] at ho;obtain⟨rfl,rfl,rfl⟩:=ho;obtain⟨q,hrun,hq⟩:=bKv (P:=C.P) (h.eval x) hab;refine same ?_ hq rfl;simp[execOp,hrun]
  ·cases ho
 case fieldAddr t x f=>
  split at ho
  ·rename_i fo hfo;obtain⟨q,hrun,hq,hob⟩:=bGz (P:=C.P) (look:=look) hfo (h.eval x) ho (fun id g i off sz hst=>by
    unfold storable at hst;simp only at hst;split at hst
    ·rename_i t' g' xs hl;obtain rfl:=Nat.eq_of_beq_eq_true hst;obtain⟨u,_,h1,_⟩:=h.objs _ _ (hlook _ _ hl);exact⟨u,h1⟩
    ·cases hst) (fun id i g j off sz hst=>aO2 h hlook hst)
   refine same ?_ hq hob;simp[execOp,hrun]
  ·cases ho
 case nilCheck x=>
  have hrun:∀ad,a.eval x=.pointer (some ad)->(execOp a.eval {dst:=dst,op:=.nilCheck x,type:=ty,pos:=pos,after:=after,guard:=guard}).run C.P w=.ok (.value (a.eval x)) w:=fun ad hp=>by
   simp[execOp,hp]
  have hxr:=h.eval x;split at ho
  ·rename_i id off hxe;simp only[val,Option.some.injEq,Prod.mk.injEq] at ho;obtain⟨rfl,rfl,rfl⟩:=ho;rw[hxe] at hxr;refine same ?_ hxr rfl;generalize hfv:a.eval x=fv at hxr hrun ⊢;cases hxr with
   |ptr _ _ b hb=>exact hrun _ rfl
  ·rename_i id g i off sz hxe;obtain⟨hst,ho⟩:=bI ho;simp only[val,Option.some.injEq,Prod.mk.injEq] at ho;obtain⟨rfl,rfl,rfl⟩:=ho;rw[hxe] at hxr;refine same ?_ hxr rfl;generalize hfv:a.eval x=fv at hxr hrun ⊢;cases hxr with
   |eptr _ _ _ _ _ b n' cap hr hi=>exact hrun _ rfl
   |eptrOld _ _ _ _ _ g' u v hr hg=>
    unfold storable at hst;simp only at hst;split at hst
    ·rename_i t' g'' xs hl;obtain rfl:=Nat.eq_of_beq_eq_true hst;obtain⟨u',_,h1,_⟩:=h.objs _ _ (hlook _ _ hl);rw[h1] at hr;simp only[Option.some.injEq,Prod.mk.injEq] at hr;omega
    ·cases hst
  ·rename_i id i g j off sz hxe;obtain⟨hst,ho⟩:=bI ho;simp only[val,Option.some.injEq,Prod.mk.injEq] at ho;obtain⟨rfl,rfl,rfl⟩:=ho;rw[hxe] at hxr;refine same ?_ hxr rfl;generalize hfv:a.eval x=fv at hxr hrun ⊢;cases hxr with
   |meptr _ _ _ _ _ _ b n' cap hr hi=>exact hrun _ rfl
   |meptrOld _ _ _ _ _ _ g' u v hr hg=>
    have:=aO2 h hlook hst _ _ hr;omega
  ·rename_i l off hxe;simp only[val,Option.some.injEq,Prod.mk.injEq] at ho;obtain⟨rfl,rfl,rfl⟩:=ho;rw[hxe] at hxr;refine same ?_ hxr rfl;generalize hfv:a.eval x=fv at hxr hrun ⊢;cases hxr with
   |ref _ _ b o f hb hc hl=>exact hrun _ rfl
  ·cases ho
 case makeFunc fn first captured=>
  split at ho
  ·rename_i f;obtain⟨h0,ho⟩:=bI ho;simp only[val,Option.some.injEq,Prod.mk.injEq] at ho;obtain⟨rfl,rfl,rfl⟩:=ho;have nR:first.size=0:=Nat.eq_of_beq_eq_true h0;have hfe:first=#[]:=Array.eq_empty_of_size_eq_zero nR
   subst hfe;refine same (u:=.func (.func f) #[] (captured.map a.eval)) ?_ (.fn f _ _ (by simp) (fun k hk=>?_)) rfl
   ·simp[execOp,Instr.makeFunc]
   ·have hk':k<captured.size:=by simpa using hk
    have:=h.eval captured[k];simpa[hk'] using this
  ·cases ho
 case field t x f=>
  split at ho
  ·rename_i fields hu;split at ho
   ·rename_i fl l hfl hl;unfold val? at ho;split at ho
    ·rename_i y hy;simp only[Option.some.injEq,Prod.mk.injEq] at ho;obtain⟨rfl,rfl,rfl⟩:=ho;have hx:=h.eval x;rw[hl] at hx;generalize hve:a.eval x=vx at hx;cases hx with
     |agg _ vs hn hr=>
      obtain⟨q,hrun,hq⟩:=u7 (w:=w) hy hn hr;refine same ?_ hq rfl;simp[execOp,hve,Instr.field,run_underlying hu,hfl,asAgg,hrun]
    ·cases ho
   ·cases ho
  ·cases ho
 case indexAddr t x ix=>
  split at ho
  ·rename_i k i hix;have hi:=h.eval ix;rw[hix] at hi;generalize hve:a.eval ix=vi at hi;cases hi;split at ho
   ·rename_i q0 fO;obtain rfl:=Option.some.inj ho;obtain⟨hob,q,hrun,hq⟩:=bFy (k:=k) h hlook (h.eval x) fO hc;refine same ?_ hq hob;simp[execOp,hve,hrun]
   ·obtain⟨hob,q,hrun,hq⟩:=bFx (k:=k) h hlook (h.eval x) ho hc;refine same ?_ hq hob;simp[execOp,hve,hrun]
  ·cases ho
 case index t x ix=>
  split at ho
  ·rename_i k i hix;have hi:=h.eval ix;rw[hix] at hi;generalize hve:a.eval ix=vi at hi;cases hi;obtain⟨hob,q,hrun,hq⟩:=bFv (k:=k) (h.eval x) ho hc;refine same ?_ hq hob;simp[execOp,hve,hrun]
  ·cases ho
 case slice t x lo hi mx=>
  cases mx with
  |some m=>cases ho
  |none=>
   have ho':pL C t (s.eval x) (lo.map s.eval) (hi.map s.eval)=some (cs,r,ob):=by
    cases lo<;>cases hi<;>exact ho
   obtain⟨hob,q,hrun,hq⟩:=aY7 (lo':=lo.map a.eval) (hi':=hi.map a.eval) (h.eval x)
    (fun y hy=>by
     obtain⟨z,hz,rfl⟩:=Option.map_eq_some_iff.1 hy;exact⟨a.eval z,by rw[hz];rfl,h.eval z⟩) (fun e=>by
     cases lo with
     |none=>rfl
     |some q=>cases e)
    (fun y hy=>by
     obtain⟨z,hz,rfl⟩:=Option.map_eq_some_iff.1 hy;exact⟨a.eval z,by rw[hz];rfl,h.eval z⟩) (fun e=>by
     cases hi with
     |none=>rfl
     |some q=>cases e) ho' hc
   refine same ?_ hq hob;simp[execOp,hrun]
 case makeInterface t x=>
  split at ho
  ·rename_i fields l hu hx;split at ho
   ·rename_i vs hvs;simp only[val,Option.some.injEq,Prod.mk.injEq] at ho;obtain⟨rfl,rfl,rfl⟩:=ho;have hxr:=h.eval x;rw[hx] at hxr;generalize hve:a.eval x=vx at hxr;cases hxr with
    |agg _ ws hn hl=>
     have e:ws=vs.toArray:=by
      have:=bAh l vs hvs ws.toList (by simpa using hn) (fun k hk=>by simpa using hl k hk);rw[<- this]
     subst e;refine same (u:=.iface t (.agg vs.toArray)) ?_ (.raw _) rfl;simp[execOp,Instr.makeInterface,run_underlying hu,hve]
   ·cases ho
  ·cases ho
 case lookup t m x ok=>
  split at ho
  ·rename_i k nn hm hx;split at ho
   ·rename_i f hf;simp only[val,Option.some.injEq,Prod.mk.injEq] at ho;obtain⟨rfl,rfl,rfl⟩:=ho;have hmr:=h.eval m;have hxr:=h.eval x;rw[hm] at hmr;rw[hx] at hxr;generalize hve:a.eval m=vm at hmr;generalize hvx:a.eval x=vx at hxr;cases hmr with
    |frz _ _ hr=>
     cases hxr;obtain⟨u,b,hrun,r1,r2,f1,f2⟩:=C.frzOK k t f hf w _ _ nn hr;refine same (u:=.tuple #[u,b]) ?_ (.tup _ _ rfl (fun j hj=>match j,hj with
      |0,_=>bGv f1 r1
      |1,_=>r2.flat f2)) rfl
     simp[execOp,hve,hvx,hrun]
   ·cases ho
  ·cases ho
 case extract t i=>
  split at ho
  ·rename_i l hl;unfold val? at ho;split at ho
   ·rename_i y hy;simp only[Option.some.injEq,Prod.mk.injEq] at ho;obtain⟨rfl,rfl,rfl⟩:=ho;have hx:=h.eval t;rw[hl] at hx;generalize hve:a.eval t=vx at hx;cases hx with
    |tup _ vs hn hr=>
     have hlt:i<l.length:=(List.getElem?_eq_some_iff.1 hy).1;have hyy:=(List.getElem?_eq_some_iff.1 hy).2;have:=hr i hlt;rw[hyy] at this;refine same (u:=vs.getD i undef) ?_ this rfl;have h2:i<vs.size:=by omega
     simp[execOp,hve,Instr.extract,h2]
   ·cases ho
  ·cases ho
 case call c=>
  obtain⟨callee,args,argTypes⟩:=c;simp only at ho;split at ho
  ·-- len
   split at ho
   ·rename_i x t hargs hts;split at ho
    ·rename_i m hm;simp only[val,Option.some.injEq,Prod.mk.injEq] at ho;obtain⟨rfl,rfl,rfl⟩:=ho;have hargs':args=#[x]:=by rw[<- Array.toArray_toList (xs:=args),hargs]
     have hts':argTypes=#[t]:=by rw[<- Array.toArray_toList (xs:=argTypes),hts]
     subst hargs';subst hts';have hx:=h.eval x;have hrun:(Builtin.len_ #[t] ty #[a.eval x]).run C.P w=.ok (.int .i64 m) w:=by
      unfold aWS at hm;split at hm
      ·rename_i b hu hxe;rw[hxe] at hx;generalize a.eval x=vx at hx;cases hx;obtain rfl:=Option.some.inj hm;simp[Builtin.len_,run_underlying hu,goInt]
      ·rename_i e τ xs hu hxe;rw[hxe] at hx;generalize a.eval x=vx at hx;obtain rfl:=Option.some.inj hm;cases hx
       ·simp[Builtin.len_,run_underlying hu,goInt]
       ·simp[Builtin.len_,run_underlying hu,goInt]
       ·simp[Builtin.len_,run_underlying hu,goInt]
      ·rename_i e hu hxe;rw[hxe] at hx;generalize a.eval x=vx at hx;obtain rfl:=Option.some.inj hm;cases hx;simp[Builtin.len_,run_underlying hu,goInt]
      ·rename_i e id g hu hxe;split at hm
       ·rename_i τ g' xs hl;have hbb:=bI hm;clear hm;obtain⟨hb,hm⟩:=hbb;obtain rfl:=Option.some.inj hm;obtain rfl:=Nat.eq_of_beq_eq_true hb;rw[hxe] at hx;obtain⟨u,cs',h1,hp,h2,h3⟩:=h.objs _ _ (hlook _ _ hl);generalize a.eval x=vx at hx;cases hx with
        |osl _ _ u' hr' hp'=>
         rw[h1] at hr';simp only[Option.some.injEq,Prod.mk.injEq,true_and] at hr';subst hr';rcases h2.2 with ⟨rfl,h0⟩|⟨gb,cap,cur,rfl,_⟩
         ·simp[Builtin.len_,run_underlying hu,goInt,h0]
         ·simp[Builtin.len_,run_underlying hu,goInt]
        |oslOld _ _ g' u' v hr' hg=>
         rw[h1] at hr';simp only[Option.some.injEq,Prod.mk.injEq] at hr';omega
       ·rename_i τ g' gm xs hl;have hbb:=bI hm;clear hm;obtain⟨hb,hm⟩:=hbb;obtain rfl:=Option.some.inj hm;obtain rfl:=Nat.eq_of_beq_eq_true hb;rw[hxe] at hx;obtain⟨u,cs',h1,hp,h2,h3⟩:=h.objs _ _ (hlook _ _ hl);generalize a.eval x=vx at hx;cases hx with
        |osl _ _ u' hr' hp'=>
         rw[h1] at hr';simp only[Option.some.injEq,Prod.mk.injEq,true_and] at hr';subst hr';rcases h2.2 with ⟨rfl,h0⟩|⟨gb,cap,cur,rfl,_⟩
         ·simp[Builtin.len_,run_underlying hu,goInt,h0]
         ·simp[Builtin.len_,run_underlying hu,goInt]
        |oslOld _ _ g' u' v hr' hg=>
         rw[h1] at hr';simp only[Option.some.injEq,Prod.mk.injEq] at hr';omega
       ·cases hm
      ·rename_i e id i g hu hxe;split at hm
       ·rename_i t1 ys hmr;obtain rfl:=Option.some.inj hm;rw[hxe] at hx;have hms:=wA h hlook hmr;generalize a.eval x=vx at hx;cases hx with
        |msl _ _ _ u hr'=>
         obtain⟨_,ds,hp,h2,h3⟩:=hms _ _ hr';rcases h2.2 with ⟨rfl,h0⟩|⟨gb,cap,cur,rfl,_⟩
         ·simp[Builtin.len_,run_underlying hu,goInt,h0]
         ·simp[Builtin.len_,run_underlying hu,goInt]
        |mslOld _ _ _ g' u' v hr' hg=>
         have:=(hms _ _ hr').1;omega
       ·cases hm
      ·rename_i e id g lo hi sz hu hxe;split at hm
       ·rename_i τ g' xs hl;have hbb:=bI hm;clear hm;obtain⟨hb,hm⟩:=hbb;obtain rfl:=Option.some.inj hm;obtain rfl:=Nat.eq_of_beq_eq_true hb;rw[hxe] at hx;obtain⟨u,cs',h1,hp,h2,h3⟩:=h.objs _ _ (hlook _ _ hl);generalize a.eval x=vx at hx;cases hx with
        |ovw _ _ _ _ _ u' ad c hr' hp' hl' had=>simp[Builtin.len_,run_underlying hu,goInt]
        |ovwOld _ _ _ _ _ g' u' v hr' hg=>
         rw[h1] at hr';simp only[Option.some.injEq,Prod.mk.injEq] at hr';omega
       ·cases hm
      ·rename_i k e hu;obtain rfl:=Option.some.inj hm;simp[Builtin.len_,run_underlying hu,goInt]
      ·cases hm
     refine same ?_ (.int _ _) rfl;simp[execOp,resolve,invoke,builtin,hrun]
    ·cases ho
   ·cases ho
  ·-- min
   unfold val? at ho;split at ho
   ·rename_i y hy;simp only[Option.some.injEq,Prod.mk.injEq] at ho;obtain⟨rfl,rfl,rfl⟩:=ho;unfold aOY at hy;split at hy
    ·rename_i k x k' y' hl;split at hy
     ·rename_i hk;subst hk;obtain rfl:=Option.some.inj hy;obtain⟨p,q,hpq⟩:∃p q,args.toList=[p,q]:=by
       match hq:args.toList with
       |[p,q]=>exact⟨p,q,rfl⟩
       |[]=>rw[hq] at hl;simp at hl
       |[_]=>rw[hq] at hl;simp at hl
       |_::_::_::_=>rw[hq] at hl;simp at hl
      have hargs':args=#[p,q]:=by rw[<- Array.toArray_toList (xs:=args),hpq]
      subst hargs';simp only[List.map_cons,List.map_nil,List.cons.injEq,and_true] at hl;have hp:=h.eval p;have hq:=h.eval q;rw[hl.1] at hp;rw[hl.2] at hq;generalize hpe:a.eval p=vp at hp;generalize hqe:a.eval q=vq at hq;cases hp;cases hq;refine same (u:=.int k (if y'<x then y' else x)) ?_ (.int _ _) rfl;simp[execOp,resolve,invoke,builtin,Builtin.min_,Builtin.min2,hpe,hqe]
     ·cases hy
    ·rename_i k x k' y' k'' z hl;split at hy
     ·rename_i hk;obtain⟨mU,cW⟩:=hk;subst mU;subst cW;obtain rfl:=Option.some.inj hy;obtain⟨p,q,r,hpq⟩:∃p q r,args.toList=[p,q,r]:=by
       match hq:args.toList with
       |[p,q,r]=>exact⟨p,q,r,rfl⟩
       |[]=>rw[hq] at hl;simp at hl
       |[_]=>rw[hq] at hl;simp at hl
       |[_,_]=>rw[hq] at hl;simp at hl
       |_::_::_::_::_=>rw[hq] at hl;simp at hl
      have hargs':args=#[p,q,r]:=by rw[<- Array.toArray_toList (xs:=args),hpq]
      subst hargs';simp only[List.map_cons,List.map_nil,List.cons.injEq,and_true] at hl;have hp:=h.eval p;have hq:=h.eval q;have hr:=h.eval r;rw[hl.1] at hp;rw[hl.2.1] at hq;rw[hl.2.2] at hr;generalize hpe:a.eval p=vp at hp;generalize hqe:a.eval q=vq at hq;generalize hre:a.eval r=vr at hr;cases hp;cases hq;cases hr;refine same (u:=.int k (if z<(if y'<x then y' else x) then z else (if y'<x then y' else x))) ?_ (.int _ _) rfl;simp[execOp,resolve,invoke,builtin,Builtin.min_,Builtin.min2,hpe,hqe,hre]
     ·cases hy
    ·cases hy
   ·cases ho
  ·-- max
   unfold val? at ho;split at ho
   ·rename_i y hy;simp only[Option.some.injEq,Prod.mk.injEq] at ho;obtain⟨rfl,rfl,rfl⟩:=ho;unfold aO3 at hy;split at hy
    ·rename_i k x k' y' hl;split at hy
     ·rename_i hk;subst hk;obtain rfl:=Option.some.inj hy;obtain⟨p,q,hpq⟩:∃p q,args.toList=[p,q]:=by
       match hq:args.toList with
       |[p,q]=>exact⟨p,q,rfl⟩
       |[]=>rw[hq] at hl;simp at hl
       |[_]=>rw[hq] at hl;simp at hl
       |_::_::_::_=>rw[hq] at hl;simp at hl
      have hargs':args=#[p,q]:=by rw[<- Array.toArray_toList (xs:=args),hpq]
      subst hargs';simp only[List.map_cons,List.map_nil,List.cons.injEq,and_true] at hl;have hp:=h.eval p;have hq:=h.eval q;rw[hl.1] at hp;rw[hl.2] at hq;generalize hpe:a.eval p=vp at hp;generalize hqe:a.eval q=vq at hq;cases hp;cases hq;refine same (u:=.int k (if x<y' then y' else x)) ?_ (.int _ _) rfl;simp[execOp,resolve,invoke,builtin,Builtin.max_,Builtin.max2,hpe,hqe]
     ·cases hy
    ·rename_i k x k' y' k'' z hl;split at hy
     ·rename_i hk;obtain⟨mU,cW⟩:=hk;subst mU;subst cW;obtain rfl:=Option.some.inj hy;obtain⟨p,q,r,hpq⟩:∃p q r,args.toList=[p,q,r]:=by
       match hq:args.toList with
       |[p,q,r]=>exact⟨p,q,r,rfl⟩
       |[]=>rw[hq] at hl;simp at hl
       |[_]=>rw[hq] at hl;simp at hl
       |[_,_]=>rw[hq] at hl;simp at hl
       |_::_::_::_::_=>rw[hq] at hl;simp at hl
      have hargs':args=#[p,q,r]:=by rw[<- Array.toArray_toList (xs:=args),hpq]
      subst hargs';simp only[List.map_cons,List.map_nil,List.cons.injEq,and_true] at hl;have hp:=h.eval p;have hq:=h.eval q;have hr:=h.eval r;rw[hl.1] at hp;rw[hl.2.1] at hq;rw[hl.2.2] at hr;generalize hpe:a.eval p=vp at hp;generalize hqe:a.eval q=vq at hq;generalize hre:a.eval r=vr at hr;cases hp;cases hq;cases hr;refine same (u:=.int k (if (if x<y' then y' else x)<z then z else (if x<y' then y' else x))) ?_ (.int _ _) rfl;simp[execOp,resolve,invoke,builtin,Builtin.max_,Builtin.max2,hpe,hqe,hre]
     ·cases hy
    ·cases hy
   ·cases ho
  ·-- append
   split at ho
   ·rename_i d x y hargs;have hargs':args=#[x,y]:=by rw[<- Array.toArray_toList (xs:=args),hargs]
    subst hargs';obtain⟨q,w',ρ',hrun,hR,hq⟩:=bL1 (ty:=ty) h hlook (hfresh d rfl) (h.eval x) (h.eval y) ho hc;refine hJ (u:=q) (w':=w') ?_ (hK ρ' _ w' (hR.put (some d) hd hq));simp[execOp,resolve,invoke,builtin,hrun]
   ·cases ho
  ·-- a function
   rename_i x;split at ho
   ·rename_i f caps hxe;have hxr:=h.eval x;rw[hxe] at hxr;generalize hfv:a.eval x=fv at hxr;cases hxr with
    |fn _ _ vs hvn hvl=>
    have hargsz:(args.map a.eval++vs).size=(args.toList.map s.eval++caps).length:=by simp[hvn]
    have hrel:∀k (hk:k<(args.toList.map s.eval++caps).length),Rel C.E w ρ (aM N ρ w) (args.toList.map s.eval++caps)[k] ((args.map a.eval++vs).getD k undef):=fun k hk=>by
     by_cases hk':k<args.size
     ·have e:(args.map a.eval++vs).getD k undef=a.eval args[k]:=by simp[Array.getElem?_append,hk']
      rw[e];rw[List.getElem_append_left (by simpa using hk')];simp only[List.getElem_map,Array.getElem_toList];exact h.eval _
     ·have cW:k-args.size<caps.length:=by simp at hk;omega
      have e:(args.map a.eval++vs).getD k undef=vs.getD (k-args.size) undef:=by
       have:k-args.size<vs.size:=by omega
       simp[Array.getElem?_append,hk']
      rw[e,List.getElem_append_right (by simp;omega)];have:=hvl (k-args.size) cW;simpa using this
    have fin:((callFunc f (args.map a.eval++vs)).run C.P w=.ok (.enter f (args.map a.eval++vs)) w/\Calls C.P f (args.map a.eval++vs) w fun e w'=>∃v,e=.returned v/\∃ρ',RR C.E n N w0 ρ' (s.fK ob) a w'/\Rel C.E w' ρ' (aM N ρ' w') r v)->
      Oper.wp C.P {dst:=dst,op:=.call {callee:=.value x,args:=args,argTypes:=argTypes},type:=ty,pos:=pos,after:=after,guard:=guard} a w K Q:=by
     rintro ⟨hcall,hcalls⟩
     refine aIA (f:=f) (args:=args.map a.eval++vs) ?_ (hcalls.mono ?_)
     ·have e:#[]++args.map a.eval=args.map a.eval:=by simp
      simp[execOp,resolve,hfv,Deferred.ofValue,invoke,hcall]
     ·rintro e w' ⟨v,rfl,ρ',hR,hv⟩
      exact⟨v,rfl,hK ρ' v w' (hR.put dst hd hv)⟩
    split at ho
    ·exact fin (bJ0 hs h hlook (dst:=dst.map (C.off+·)) (fun d0 hd0 nQ=>by
      obtain⟨d1,e1,rfl⟩:=Option.map_eq_some_iff.1 hd0;exact hfresh d1 e1 nQ) (args:=args.map a.eval++vs) hargsz hrel ho hc)
    ·rename_i m hm;exact fin (bII hs h hlook hm (args:=args.map a.eval++vs) hargsz hrel ho hc)
   ·cases ho
  ·cases ho
end
end Go.Vm
namespace Go.Vm
open Go.RowKit
set_option linter.unusedVariables false
section
variable {U:dH} {n:Nat} {N:Nat->Prop} {w0:Fr} {w w':World} {ρ ρ':Own} {s s':ASt U} {a:Act}
def gT (ρ:Own) (id:Nat) (p:Option (Nat×Value)) (f:Nat->Option (Nat×Value)):Own:=fun nm=>if nm.id=id then (match nm with | .ob _=>p | .mem _ i=>f i) else ρ nm
theorem kL {id:Nat} {p:Option (Nat×Value)} {f:Nat->Option (Nat×Value)} {nm:Name} (h:nm.id≠id):gT ρ id p f nm=ρ nm:=by unfold gT;rw[if_neg h]
theorem pN {id:Nat} {p:Option (Nat×Value)} {f:Nat->Option (Nat×Value)}:gT ρ id p f (.ob id)=p:=if_pos rfl
theorem pO {id i:Nat} {p:Option (Nat×Value)} {f:Nat->Option (Nat×Value)}:gT ρ id p f (.mem id i)=f i:=if_pos rfl
theorem aIU {E:Enc U} (h:RR E n N w0 ρ s a w) {m id:Nat} (hmi:m≠id) {ρ':Own} (hout:∀nm:Name,nm.id≠m->nm.id≠id->ρ' nm=ρ nm)
  (hmono:∀(nm:Name) g u,(nm.id=m\/nm.id=id)->ρ nm=some (g,u)->ρ' nm=some (g,u)\/((∀a,u≠ .pointer a)/\∃g' u',ρ' nm=some (g',u')/\g<g'))
  (hw:Below w0.heap.size w w') (hsame:∀b,b<w.heap.size->(∀(nm:Name) g u,(nm.id=m\/nm.id=id)->ρ nm=some (g,u)->blk u≠some b)->w'.heap[b]?=w.heap[b]?)
  (src:Name->Name) (hsrc:∀(nm:Name) g u b,(nm.id=m\/nm.id=id)->ρ' nm=some (g,u)->blk u=some b->((src nm).id=m\/(src nm).id=id)/\((∃g0 u0,ρ (src nm)=some (g0,u0)/\blk u0=some b)\/(nm=.ob id/\w.heap.size<=b)))
  (hinj:∀(nm nm':Name) g g' u u' b b',(nm.id=m\/nm.id=id)->(nm'.id=m\/nm'.id=id)->ρ' nm=some (g,u)->ρ' nm'=some (g',u')->blk u=some b->blk u'=some b'->src nm=src nm'->nm=nm'):
  Chg N (fun q=>q=m\/q=id) w0.heap.size ρ ρ' w w':=by
 refine⟨fun nm hn=>hout nm (fun e=>hn (.inl e)) (fun e=>hn (.inr e)),hmono,hw,hsame,fun nm g u b hd hr hb=>?_,fun nm nm' g g' u u' b hd hd' hr hr' hne hb hb'=>?_⟩
 ·obtain⟨h1,h2⟩:=hsrc nm g u b hd hr hb;rcases h2 with ⟨g0,u0,q1,q2⟩|⟨_,q⟩
  ·exact .inl ⟨src nm,g0,u0,h1,q1,q2⟩
  ·exact .inr q
 ·obtain⟨_,h2⟩:=hsrc nm g u b hd hr hb;obtain⟨_,h2'⟩:=hsrc nm' g' u' b hd' hr' hb';rcases h2 with ⟨g0,u0,q1,q2⟩|⟨e,q⟩
  ·rcases h2' with ⟨g1,u1,q1',q2'⟩|⟨e',q'⟩
   ·exact h.sep _ _ _ _ _ _ b q1 q1' (fun e=>hne (hinj _ _ _ _ _ _ _ _ hd hd' hr hr' hb hb' e)) q2 q2'
   ·have:=((h.own q1).2 b q2).2;omega
  ·rcases h2' with ⟨g1,u1,q1',q2'⟩|⟨e',q'⟩
   ·have:=((h.own q1').2 b q2').2;omega
   ·exact hne (e.trans e'.symm)
def aJU (C:Cfg U) (s:ASt U) (dt:Nat) (t:TypeId) (x y:aB U):Option (List Prop×ASt U):=
 match x,y with
 | .osl id g,.int _ m=>match s.objs id,C.P.underlying t with
  |some (.row τ g' xs),some (.slice e)=>cond (Nat.beq g g'&&(match fU C.P e with|some q=>Nat.beq q (U.size τ)|none=>false))
    (some ([0<=m/\m<=xs.length],(s.obj id (.row τ (g+1) (xs.take m.toNat))).set dt (.osl id (g+1)))) none
  |_,_=>none
 |_,_=>none
theorem bBy {base e size m k cap:Nat} {cs:List Value} {b:Nat} (h:w.ownsRow base e size (.slice (some ⟨b,0,none⟩) k cap) k cs) (hm:m<=k):w.ownsRow base e size (.slice (some ⟨b,0,none⟩) m cap) m (cs.take (m*size)):=by
 have hmk:m*size<=k*size:=Nat.mul_le_mul_right _ hm;refine⟨by rw[List.length_take,h.1];omega,?_⟩;rcases h.2 with ⟨h0,_⟩|⟨gb,cap',cur,heq,hbase,hgb,hn,hcm,hcs,htake⟩
 ·cases h0
 ·simp only[Value.slice.injEq,Option.some.injEq,Addr.mk.injEq,and_true,true_and] at heq;obtain⟨rfl,rfl⟩:=heq;exact .inr ⟨b,cap,cur,rfl,hbase,hgb,by omega,hcm,hcs,by rw[<- htake,List.take_take,Nat.min_eq_left hmk]⟩
theorem bCD {C:Cfg U} (h:RR C.E n N w0 ρ s a w) {dt:Nat} (hd:dt<n) {t:TypeId} {x y:aB U} {u v:Value} (hx:Rel C.E w ρ (aM N ρ w) x u) (hy:Rel C.E w ρ (aM N ρ w) y v)
  {cs:List Prop} (ho:aJU C s dt t x y=some (cs,s')) (hc:dE cs):
  ∃v' ρ',(Instr.sliceAt t u none (some v) none).run C.P w=.ok v' w/\RR C.E n N w0 ρ' s' (a.put (some dt) v') w:=by
 unfold aJU at ho;split at ho
 ·rename_i id g ki m;split at ho
  ·rename_i τ g' xs e hid hu;obtain⟨hb,ho⟩:=bI ho;cases ho;simp only[Bool.and_eq_true] at hb;obtain rfl:=Nat.eq_of_beq_eq_true hb.1;obtain⟨ti,hti,hts⟩:=oF hb.2;cases hy;have h0:0<=m/\m<=xs.length:=hc;obtain⟨u1,csx,h1,hpp,h2,h3⟩:=h.objs _ _ hid;have qC:u1=u:=by
    cases hx with
    |osl _ _ u' hr' hp'=>
     rw[h1] at hr';simp only[Option.some.injEq,Prod.mk.injEq,true_and] at hr';exact hr'
    |oslOld _ _ g' u' v hr' hg=>
     rw[h1] at hr';simp only[Option.some.injEq,Prod.mk.injEq] at hr';omega
   subst qC;have main:∀v',(∀b,blk v'=some b->blk u1=some b)->(∀a,v'≠ .pointer a)->w.ownsRow w0.heap.size (U.ety τ) (U.size τ) v' m.toNat (csx.take (m.toNat*U.size τ))->
     RR C.E n N w0 (bZ ρ id (g+1) v') ((s.obj id (.row τ (g+1) (xs.take m.toNat))).set dt (.osl id (g+1))) (a.put (some dt) v') w:=fun v' hbl hvp hown=>by
    have hold:∀g1 u',ρ id=some (g1,u')->(g1=g+1/\u'=v')\/((∀a,u'≠ .pointer a)/\g1<g+1):=fun g1 u' hr=>by
     rw[h1] at hr;cases hr;exact .inr ⟨hpp,by omega⟩
    have hnew:∀b',blk v'=some b'->(∃g u',ρ id=some (g,u')/\blk u'=some b')\/(w.heap.size<=b'):=fun b' hb'=>.inl ⟨_,_,h1,hbl b' hb'⟩
    have hsimp:∀ob,s.objs id=some ob->ob.simple=true:=fun ob ho=>by rw[hid] at ho;cases ho;rfl
    refine(h.upd id (g+1) v' _ hsimp hold (Below.refl _ _) (fun _ _ _=>rfl) hnew ?_).put (some dt) (fun _ e=>by cases e;exact hd) (.osl id (g+1) v' (by simp[bZ]) hvp);have hml:(xs.take m.toNat).length=m.toNat:=by rw[List.length_take];omega
    refine⟨v',csx.take (m.toNat*U.size τ),by simp[bZ],hvp,by rw[hml];exact hown,fun j hj k hk=>?_⟩;rw[hml] at hj;have hjx:j<xs.length:=by omega
    have e1:(xs.take m.toNat)[j]'(by rw[hml];exact hj)=xs[j]:=List.getElem_take;have cW:k<(C.E.enc τ xs[j]).length:=by rw[C.E.enc_len] at hk ⊢;exact hk
    have hks:k<U.size τ:=by rw[C.E.enc_len] at cW;exact cW
    have hlt:j*U.size τ+k<m.toNat*U.size τ:=by
     have:(j+1)*U.size τ<=m.toNat*U.size τ:=Nat.mul_le_mul_right _ hj;rw[Nat.add_mul,Nat.one_mul] at this;omega
    have e2:(csx.take (m.toNat*U.size τ)).getD (j*U.size τ+k) undef=csx.getD (j*U.size τ+k) undef:=by
     simp only[List.getD_eq_getElem?_getD,List.getElem?_take,if_pos hlt]
    simp only[e1,e2];exact h.oA id (g+1) v' hsimp hold (Below.refl _ _) (fun _ _ _=>rfl) hnew (h3 j hjx k cW)
   have hsl:=aEK (P:=C.P) (w:=w) hu (fun _ _ e=>by cases e) u1 none (some (.int ki m));rcases h2.2 with ⟨rfl,fX⟩|⟨gb,cap,cur,heq,hbase,hgb,hn,hcm,hcs,htake⟩
   ·have wQ:m.toNat=0:=by omega
    have bV:=lG (P:=C.P) (w:=w) (k:=ki) (code:=.sliceAcap) (show 0<=m/\m<=(0:Nat) by omega);refine⟨.slice none 0 0,_,?_,main (.slice none 0 0) (fun b hb=>by cases hb) (fun a e=>by cases e) (by rw[wQ];simpa using World.ownsRow_nil _ _ _ _)⟩;rw[hsl];simp[Instr.slice,Instr.sliceBounds,run_underlying hu,bV,sizeOf,typeInfo,hti,wQ]
   ·subst heq;have bV:=lG (P:=C.P) (w:=w) (k:=ki) (code:=.sliceAcap) (show 0<=m/\m<=cap by omega);refine⟨.slice (some ⟨gb,0,none⟩) m.toNat cap,_,?_,main (.slice (some ⟨gb,0,none⟩) m.toNat cap) (fun b hb=>hb) (fun a e=>by cases e) (bBy h2 (by omega))⟩;rw[hsl];simp[Instr.slice,Instr.sliceBounds,run_underlying hu,bV,sizeOf,typeInfo,hti,addr_add]
  ·cases ho
 ·cases ho
def aLo (C:Cfg U) (s:ASt U) (d dt:Nat) (t:TypeId) (len:Nat):List (Nat×aB U)->Option (List Prop×ASt U)
 |[(0,.nils)]=>match iD C t,s.objs d with
  |some τ,none=>match C.E.inner τ,zeroCells (U:=U) C.P (U.ety τ) with
   |some t1,some z=>match U.unsl τ t1 [] with
    |some y=>cond (Nat.beq len 1&&Nat.beq (U.size τ) 1&&Nat.beq z.length (U.size τ)) (some ([],(s.obj d (.deep τ 0 0 [y])).set dt (.osl d 0))) none
    |none=>none
   |_,_=>none
  |_,_=>none
 |_=>none
theorem aJW {E:Enc U} (h:RR E n N w0 ρ s a w) {id:Nat} {ρ':Own} (hout:∀nm:Name,nm.id≠id->ρ' nm=ρ nm)
  (hmono:∀(nm:Name) g u,nm.id=id->ρ nm=some (g,u)->ρ' nm=some (g,u)\/((∀a,u≠ .pointer a)/\∃g' u',ρ' nm=some (g',u')/\g<g'))
  (hw:Below w0.heap.size w w') (hsame:∀b,b<w.heap.size->(∀(nm:Name) g u,nm.id=id->ρ nm=some (g,u)->blk u≠some b)->w'.heap[b]?=w.heap[b]?)
  (x0:Name) (hsrc:∀(nm:Name) g u b,nm.id=id->ρ' nm=some (g,u)->blk u=some b->(∃g0 u0,ρ nm=some (g0,u0)/\blk u0=some b)\/(nm=x0/\w.heap.size<=b)):
  Chg N (fun q=>q=id) w0.heap.size ρ ρ' w w':=by
 refine⟨fun nm hn=>hout nm hn,hmono,hw,hsame,fun nm g u b hd hr hb=>?_,fun nm nm' g g' u u' b hd hd' hr hr' hne hb hb'=>?_⟩
 ·rcases hsrc nm g u b hd hr hb with ⟨g0,u0,q1,q2⟩|⟨_,q⟩
  ·exact .inl ⟨nm,g0,u0,hd,q1,q2⟩
  ·exact .inr q
 ·rcases hsrc nm g u b hd hr hb with ⟨g0,u0,q1,q2⟩|⟨e,q⟩
  ·rcases hsrc nm' g' u' b hd' hr' hb' with ⟨g1,u1,q1',q2'⟩|⟨e',q'⟩
   ·exact h.sep _ _ _ _ _ _ b q1 q1' hne q2 q2'
   ·have:=((h.own q1).2 b q2).2;omega
  ·rcases hsrc nm' g' u' b hd' hr' hb' with ⟨g1,u1,q1',q2'⟩|⟨e',q'⟩
   ·have:=((h.own q1').2 b q2').2;omega
   ·exact hne (e.trans e'.symm)
theorem aJ1 (s:ASt U) (id d:Nat) (y:aV U) (v:aB U):(∀q,q≠id->((s.obj id y).set d v).objs q=s.objs q)/\((s.obj id y).set d v).objs id=some y:=by
 refine⟨fun q h2=>?_,?_⟩
 ·show cond (Nat.beq q id) _ _=_;rw[fG h2];rfl
 ·show cond (Nat.beq id id) _ _=_;rw[Nat.beq_refl];rfl
theorem bIq {C:Cfg U} (h:RR C.E n N w0 ρ s a w) {d dt:Nat} (hd:dt<n) {t:TypeId} {len:Nat}
  {parts:List (Nat×aB U)} {parts':Array (Nat×Value)} (hpl:parts.length=parts'.size)
  (hp:∀k (h:k<parts.length) (h':k<parts'.toList.length),parts[k].1=parts'.toList[k].1/\Rel C.E w ρ (aM N ρ w) parts[k].2 parts'.toList[k].2)
  {cs:List Prop} (ho:aLo C s d dt t len parts=some (cs,s')):
  ∃v' w' ρ',(Instr.buildSlice t len parts').run C.P w=.ok v' w'/\RR C.E n N w0 ρ' s' (a.put (some dt) v') w':=by
 unfold aLo at ho;split at ho
 ·split at ho
  ·rename_i τ hτ hfree;split at ho
   ·rename_i t1 z hin hz;split at ho
    ·rename_i y hy;obtain⟨hb,ho⟩:=bI ho;cases ho;simp only[Bool.and_eq_true] at hb;obtain⟨⟨bV,gZ⟩,kP⟩:=hb;obtain rfl:=Nat.eq_of_beq_eq_true bV;have hsz:=Nat.eq_of_beq_eq_true gZ;have hzl:=Nat.eq_of_beq_eq_true kP;obtain⟨hu,i,hi,his⟩:=mH hτ;obtain⟨zv,hzr,hzsz,hzrel⟩:=pB (E:=C.E) (w:=w) (ρ:=ρ) hz;have hps:parts'.toList.length=1:=by simpa using hpl.symm
     obtain⟨q1,q2⟩:=hp 0 (by simp) (by omega);simp only[List.getElem_cons_zero] at q1 q2;obtain⟨⟨i0,v⟩,hpe⟩:∃x,parts'.toList=[x]:=List.length_eq_one_iff.1 hps;simp only[hpe,List.getElem_cons_zero] at q1 q2;subst q1;have hpe':parts'=#[(0,v)]:=by rw[<- Array.toArray_toList (xs:=parts'),hpe]
     subst hpe';cases q2
     let um:Value:=.slice none 0 0
     have hone:um.oneCell'=true:=rfl;have hcu:um.cells=#[um]:=cells_one hone;have hrow:((Array.range (1*1)).map (fun k=>zv.cells[k % zv.cells.size]!)).size=1:=by simp
     have hfill:Instr.fill (fun i=>some (i*1,1)) ((Array.range (1*1)).map (fun k=>zv.cells[k % zv.cells.size]!)) [(0,um)]=some #[um]:=by
      generalize (Array.range (1*1)).map (fun k=>zv.cells[k % zv.cells.size]!)=base at hrow;obtain⟨b0,rfl⟩:∃b0,base=#[b0]:=by
       obtain⟨l⟩:=base;simp only[List.size_toArray] at hrow;obtain⟨x,rfl⟩:=List.length_eq_one_iff.1 hrow;exact⟨x,rfl⟩
      simp[Instr.fill,hcu]
     have hnone:=h.oB hfree;have hmemd:=h.pV (id:=d) (fun ob ho=>by rw[hfree] at ho;cases ho)
     let w2:=w.alloc (.cells #[um] (U.ety τ))
     let vn:Value:=.slice (some ⟨w.heap.size,0,none⟩) 1 1
     have hvn:∀a,vn≠ .pointer a:=fun a e=>by
      have e':(Value.slice (some ⟨w.heap.size,0,none⟩) 1 1)=.pointer a:=e;cases e'
     let ρ2:Own:=gT ρ d (some (0,vn)) (fun j=>if j=0 then some (0,um) else none)
     have ed:ρ2 (.ob d)=some (0,vn):=pN;have edm:∀j,ρ2 (.mem d j)=if j=0 then some (0,um) else none:=fun j=>pO
     have hbel:Below w.heap.size w w2:=(Below.refl _ _).alloc (Nat.le_refl _) _;have c:Chg N (fun q=>q=d) w0.heap.size ρ ρ2 w w2:=by
      refine aJW h (fun nm hn=>kL hn) (fun nm g u hq hr=>?_) (hbel.mono h.below.size) (fun b hb _=>hbel.block b hb) (.ob d) (fun nm g u b hq hr hb=>?_)
      ·exfalso;cases nm with
       |ob q=>
        obtain rfl:q=d:=hq;exact hnone _ _ hr
       |mem q j=>
        obtain rfl:q=d:=hq;rw[hmemd j] at hr;cases hr
      ·cases nm with
       |ob q=>
        obtain rfl:q=d:=hq;rw[ed] at hr;cases hr;simp only[vn,blk,Option.some.injEq] at hb;exact .inr ⟨rfl,by omega⟩
       |mem q j=>
        obtain rfl:q=d:=hq;rw[edm] at hr;split at hr
        ·cases hr;cases hb
        ·cases hr
     obtain⟨o1,o3⟩:=aJ1 s d dt (.deep τ 0 0 [y]) (.osl d 0);have hR:=h.change (s':=s.obj d (.deep τ 0 0 [y])) c rfl (fun q hq=>o1 q hq) (fun nm g u hq hr=>?_) (fun q ob hq ho=>?_) (fun q ob hq _=>⟨_,(congrArg _ hq).trans o3⟩)
     ·refine⟨vn,w2,ρ2,?_,hR.put (some dt) (fun _ e=>by cases e;exact hd) (.osl d 0 vn ed hvn)⟩;have iT:¬1*i.size > 2^24:=by rw[his,hsz];simp
      have h0:¬1*i.size=0:=by rw[his,hsz];simp
      rw[his,hsz] at iT h0;simp only[Instr.buildSlice,Sem.run_bind,run_underlying hu,Result.andThen_ok,sizeOf,typeInfo,run_program,hi,Sem.run_pure,his,hsz,if_neg iT,if_neg h0,hzr];rw[show Instr.fill (fun i=>some (i*1,1)) ((Array.range (1*1)).map (fun k=>zv.cells[k % zv.cells.size]!)) [(0,Value.slice none 0 0)]=some #[um] from hfill];simp only[newRow,Sem.run_bind,Sem.run_pure,run_newObj,Result.andThen_ok];rfl
     ·exact⟨_,by rw[hq];exact o3,fun e=>by cases e⟩
     ·subst hq;rw[show (s.obj q (.deep τ 0 0 [y])).objs q=some (.deep τ 0 0 [y]) from o3] at ho;cases ho;refine⟨vn,[um],ed,hvn,⟨by simp[hsz],.inr ⟨w.heap.size,1,#[um],rfl,h.below.size,heap_alloc_new w _,by simp,by unfold maxLen;omega,by simp[hsz],by simp[hsz]⟩⟩,hsz,fun j hj=>?_,fun j hj=>?_⟩
      ·rw[edm,if_neg (by simp at hj;omega)]
      ·have lF:j=0:=by simpa using hj
       subst lF;exact⟨t1,[],um,[],C.E.unsl_ok _ _ _ _ hy,by rw[edm,if_pos rfl],rfl,(fun a e=>by have e':Value.slice none 0 0=.pointer a:=e;cases e'),World.ownsRow_nil _ _ _ _,fun i hi=>absurd hi (by simp)⟩
    ·cases ho
   ·cases ho
  ·cases ho
 ·cases ho
theorem aVe {E:Enc U} (h:RR E n N w0 ρ s a w) {τ:U.τ} {ys:List (U.T τ)} {y:Value} (hy:uK E w ρ (aM N ρ w) τ ys y):
  ∃f,aDN w ys.length (U.size τ) f y/\∀i (h:i<ys.length) k (hk:k<(E.enc τ ys[i]).length),Rel E w ρ (aM N ρ w) (E.enc τ ys[i])[k] (f (i*U.size τ+k)):=by
 have hsz:=E.pos τ;rcases hy with ⟨⟨ad,rfl⟩,rfl⟩|⟨b,o,cap,f,rfl,hcap,hc,hl⟩
 ·exact⟨fun _=>undef,.inl ⟨⟨ad,rfl⟩,rfl⟩,fun i hi=>absurd hi (by simp)⟩
 ·refine⟨f,.inr ⟨b,o,cap,rfl,hcap,fun j hj=>⟨hc j hj,?_⟩⟩,hl⟩;have hq:j / U.size τ<ys.length:=Nat.div_lt_of_lt_mul (by rw[Nat.mul_comm];exact hj);have hm:j % U.size τ<(E.enc τ ys[j / U.size τ]).length:=by rw[E.enc_len];exact Nat.mod_lt _ hsz
  have:=hl (j / U.size τ) hq (j % U.size τ) hm;have e:j / U.size τ*U.size τ+j % U.size τ=j:=by rw[Nat.mul_comm];exact Nat.div_add_mod _ _
  rw[e] at this;obtain⟨hfl,hcell⟩:=E.enc_flat τ _ _ (List.getElem_mem hm);refine this.pU hcell (fun _ _ _ hr=>(h.own hr).1) (fun id g he=>?_) (fun id g i off sz he=>?_) (fun id i g he=>?_) (fun id i g j off sz he=>?_)
  ·rw[he] at hfl;cases hfl
  ·rw[he] at hfl;cases hfl
  ·rw[he] at hfl;cases hfl
  ·rw[he] at hfl;cases hfl
theorem aMF {E:Enc U} {w:World} {ρ:Own} {st:Nat->Prop} {τ:U.τ} {xs ys:List (U.T τ)} {cs:List Value} {f:Nat->Value} (hcl:cs.length=xs.length*U.size τ)
  (hxs:∀i (h:i<xs.length) k (hk:k<(E.enc τ xs[i]).length),Rel E w ρ st (E.enc τ xs[i])[k] (cs.getD (i*U.size τ+k) undef))
  (hl:∀i (h:i<ys.length) k (hk:k<(E.enc τ ys[i]).length),Rel E w ρ st (E.enc τ ys[i])[k] (f (i*U.size τ+k))):
  ∀j (h:j<(xs++ys).length) k (hk:k<(E.enc τ (xs++ys)[j]).length),Rel E w ρ st (E.enc τ (xs++ys)[j])[k] ((cs++(List.range (ys.length*U.size τ)).map f).getD (j*U.size τ+k) undef):=by
 intro j hj k hk;have hlen:(xs++ys).length=xs.length+ys.length:=by simp
 have hk':k<U.size τ:=by rw[E.enc_len] at hk;exact hk
 by_cases hjx:j<xs.length
 ·have e:(xs++ys)[j]=xs[j]:=List.getElem_append_left hjx;have hin:j*U.size τ+k<cs.length:=by
   rw[hcl];have:(j+1)*U.size τ<=xs.length*U.size τ:=Nat.mul_le_mul_right _ hjx;rw[Nat.add_mul,Nat.one_mul] at this;omega
  have:=hxs j hjx k (by rw[e] at hk;exact hk);simp only[e];simpa[List.getElem?_append,hin] using this
 ·have lS:j-xs.length<ys.length:=by rw[hlen] at hj;omega
  have e:(xs++ys)[j]=ys[j-xs.length]:=List.getElem_append_right (by omega);have:=hl (j-xs.length) lS k (by rw[e] at hk;exact hk);simp only[e];have hjm:j*U.size τ=xs.length*U.size τ+(j-xs.length)*U.size τ:=by
   rw[<- Nat.add_mul];congr 1;omega
  have h4:(j-xs.length+1)*U.size τ<=ys.length*U.size τ:=Nat.mul_le_mul_right _ lS;rw[Nat.add_mul,Nat.one_mul] at h4;have e2:(cs++(List.range (ys.length*U.size τ)).map f).getD (j*U.size τ+k) undef=f ((j-xs.length)*U.size τ+k):=by
   have h5:¬j*U.size τ+k<cs.length:=by rw[hcl];omega
   have h6:j*U.size τ+k-cs.length=(j-xs.length)*U.size τ+k:=by rw[hcl];omega
   have h7:(j-xs.length)*U.size τ+k<ys.length*U.size τ:=by omega
   simp[List.getElem?_append,h5,h6,h7]
  rw[e2];exact this
def aLp (C:Cfg U) (look:Nat->Option (aV U)) (ts:List TypeId) (x y:aB U):Out U:=
 match ts,x with
 |[t,t'],.msl id i g=>cond (Nat.beq t t') (match iD C t,look id with
  |some τ,some (.deep tx g0 gm xs)=>match C.P.info? (U.ety τ),nI C.E look id i g with
   |some inf,some ⟨t1,ys⟩=>match inf.zero,kD τ t1 ys,rowOf C.E look τ y with
    |some z,some us,some zs=>match U.unsl tx τ (us++zs) with
     |some q=>cond (Nat.beq z.cells.size (U.size τ)&&Nat.ble 1 inf.bytes) (some ([(us.length+zs.length)*inf.bytes<=140737488355328],.msl id i (gm+1),some (id,.deepS tx g0 (gm+1) (xs.set i q) i))) none
     |none=>none
    |_,_,_=>none
   |_,_=>none
  |_,_=>none) none
 |_,_=>none
theorem bIr {C:Cfg U} (h:RR C.E n N w0 ρ s a w) {look:Nat->Option (aV U)} (hlook:∀id ob,look id=some ob->s.objs id=some ob) {argTypes:Array TypeId} {ty:TypeId} {x y:aB U} {u v:Value} (hx:Rel C.E w ρ (aM N ρ w) x u) (hy:Rel C.E w ρ (aM N ρ w) y v)
  {cs:List Prop} {r:aB U} {ob:Option (Nat×aV U)} (ho:aLp C look argTypes.toList x y=some (cs,r,ob)) (hc:dE cs):
  ∃v' w' ρ',(Builtin.append_ argTypes ty #[u,v]).run C.P w=.ok v' w'/\RR C.E n N w0 ρ' (s.fK ob) a w'/\Rel C.E w' ρ' (aM N ρ' w') r v':=by
 unfold aLp at ho;split at ho
 ·rename_i t t' id i g hat;have hbo:=bI ho;clear ho;obtain⟨hb,ho⟩:=hbo;obtain rfl:=Nat.eq_of_beq_eq_true hb;have hargs:argTypes=#[t,t]:=by rw[<- Array.toArray_toList (xs:=argTypes),hat]
  subst hargs;split at ho
  ·rename_i τ tx g0 gm xs hτ hid;split at ho
   ·rename_i inf t1 ys hi hmr;split at ho
    ·rename_i z us zs hz hcast hzs;split at ho
     ·rename_i q hq;obtain⟨cA,ho⟩:=bI ho;cases ho;simp only[Bool.and_eq_true] at cA;obtain⟨hzs2,hby⟩:=cA;have hzs2:=Nat.eq_of_beq_eq_true hzs2;have hby:=Nat.le_of_ble_eq_true hby;obtain⟨rfl,rfl⟩:=kS hcast;have hbytes:(ys.length+zs.length)*inf.bytes<=140737488355328:=hc;have hid':=hlook _ _ hid;have hgm:g=gm:=by
       unfold nI at hmr;rw[hid] at hmr;simp only at hmr;split at hmr
       ·obtain⟨hb,_⟩:=aLv hmr;exact Nat.eq_of_beq_eq_true hb
       ·cases hmr
      subst hgm;have hms:=wA h hlook hmr;obtain⟨u0,gD,r1,r2,r3,r4,r5,r6⟩:=h.objs _ _ hid';have hr:ρ (.mem id i)=some (g,u):=by
       cases hx with
       |msl _ _ _ _ hr=>exact hr
       |mslOld _ _ _ g' u' _ hr hg=>
        have:=(hms _ _ hr).1;omega
      have hix:i<xs.length:=by
       refine Classical.byContradiction fun hn=>?_
       rw[r5 i (by omega)] at hr;cases hr
      obtain⟨_,ds,hvp,h2,h3⟩:=hms _ _ hr;obtain⟨f,hcy,hl⟩:=aVe h (aIb h hlook hy hzs);obtain⟨hu,i',hi',his⟩:=mH hτ;rw[hi] at hi';obtain rfl:=Option.some.inj hi';obtain⟨v',w',hrun,hown',hgrow,hpv,hblk⟩:=aHl (P:=C.P) (ty:=ty) hu hi hz his hzs2 (C.E.pos t1) hby h2 hvp hcy hbytes h.below.size
      let ρ2:Own:=gT ρ id (ρ (.ob id)) (fun j=>if j=i then some (g+1,v') else (ρ (.mem id j)).map fun p=>(g+1,p.2))
      have eid:ρ2 (.ob id)=ρ (.ob id):=pN;have emem:∀j,ρ2 (.mem id j)=if j=i then some (g+1,v') else (ρ (.mem id j)).map fun p=>(g+1,p.2):=fun j=>pO
      have hmemv:∀j g1 u1,ρ (.mem id j)=some (g1,u1)->g1=g/\∀a,u1≠ .pointer a:=fun j g1 u1 cH=>by
       have hj:j<xs.length:=by
        refine Classical.byContradiction fun hn=>?_
        rw[r5 j (by omega)] at cH;cases cH
       obtain⟨t2,ws,v2,qI,p1,p2,p3,p4,_⟩:=r6 j hj;rw[cH] at p2;cases p2;exact⟨rfl,p4⟩
      have c:Chg N (fun q=>q=id) w0.heap.size ρ ρ2 w w':=by
       refine aJW h (fun nm hn=>kL hn) (fun nm g1 u1 hd cH=>?_) ((Below.refl _ _).grown hgrow h.below.size (fun k hk=>?_)) (fun b hb hne=>hgrow.block b hb (fun e=>?_)) (.mem id i) (fun nm g1 u1 b hd cH hb=>?_)
       ·cases nm with
        |ob q=>
         obtain rfl:q=id:=hd;exact .inl (by rw[eid];exact cH)
        |mem q j=>
         obtain rfl:q=id:=hd;obtain⟨rfl,jL⟩:=hmemv j g1 u1 cH;refine .inr ⟨jL,?_⟩;rw[emem]
         by_cases hji:j=i
         ·rw[if_pos hji];exact⟨_,_,rfl,by omega⟩
         ·rw[if_neg hji,cH];exact⟨_,_,rfl,by omega⟩
       ·exact((h.own hr).2 k (by rw[<- iG hvp];exact hk)).1
       ·exact hne (.mem id i) g u rfl hr (by rw[<- iG hvp];exact e.symm)
       ·cases nm with
        |ob q=>
         obtain rfl:q=id:=hd;rw[eid] at cH;exact .inl ⟨_,_,cH,hb⟩
        |mem q j=>
         obtain rfl:q=id:=hd;rw[emem] at cH;split at cH
         ·rename_i hji;subst hji;cases cH;rcases hblk b hb with hb'|hb'
          ·exact .inl ⟨_,_,hr,hb'⟩
          ·exact .inr ⟨rfl,hb'⟩
         ·cases hq1:ρ (.mem q j) with
          |none=>rw[hq1] at cH;cases cH
          |some p=>
           rw[hq1] at cH;cases cH;exact .inl ⟨_,_,rfl,hb⟩
      have keep:∀{nm:Name} {g1:Nat} {u1:Value} {e:TypeId} {m k:Nat} {cs:List Value},nm≠ .mem id i->ρ nm=some (g1,u1)->(∀a,u1≠ .pointer a)->w.ownsRow w0.heap.size e m u1 k cs->w'.ownsRow w0.heap.size e m u1 k cs:=fun {nm g1 u1 e m k cs} hne cH jL hw=>by
       refine hw.kept hgrow ?_;rw[iG hvp,iG jL];cases hq1:blk u1 with
       |none=>exact .inl rfl
       |some b=>exact .inr (fun e=>h.sep _ _ _ _ _ _ b cH hr hne hq1 e.symm)
      obtain⟨o1,o3⟩:=aJ1 s id 0 (.deepS tx g0 (g+1) (xs.set i q) i) .any;have hR:=h.change (s':=s.obj id (.deepS tx g0 (g+1) (xs.set i q) i)) c rfl (fun q hq=>o1 q hq) (fun nm g u hq hr=>?_) (fun p ob hp ho=>?_) (fun q ob hq _=>⟨_,(congrArg _ hq).trans o3⟩)
      ·exact⟨v',w',ρ2,hrun,hR,.msl id i (g+1) v' (by rw[emem,if_pos rfl])⟩
      ·exact⟨_,by rw[hq];exact o3,fun e=>by cases e⟩
      ·subst hp;rw[show (s.obj p (.deepS tx g0 (g+1) (xs.set i q) i)).objs p=some (.deepS tx g0 (g+1) (xs.set i q) i) from o3] at ho;cases ho;refine⟨u0,gD,by rw[eid];exact r1,r2,by rw[List.length_set];exact keep (fun e=>by cases e) r1 r2 r3,r4,fun j hj=>?_,fun j hj=>?_⟩
       ·rw[List.length_set] at hj;rw[emem,if_neg (by omega),r5 j hj];rfl
       ·rw[List.length_set] at hj;obtain⟨t2,ws,v2,qI,p1,p2,p3,p4,p5,p6⟩:=r6 j hj
        by_cases hji:j=i
        ·subst hji;refine⟨t1,ys++zs,v',_,?_,by rw[emem,if_pos rfl],fun e=>absurd rfl e,hpv,by rw[List.length_append];exact hown',?_⟩
         ·simp only[List.getElem_set_self];exact C.E.unsl_ok _ _ _ _ hq
         ·exact aMF h2.1 (fun i hi k hk=>c.rel (h3 i hi k hk)) (fun i hi k hk=>c.rel (hl i hi k hk))
        ·have e1:(xs.set i q)[j]'(by rw[List.length_set];exact hj)=xs[j]:=by rw[List.getElem_set_ne (Ne.symm hji)]
         rw[e1];exact⟨t2,ws,v2,qI,p1,by rw[emem,if_neg hji,p2];rfl,fun _=>p3,p4,keep (fun e=>hji (Name.mem.inj e).2) p2 p4 p5,fun i hi k hk=>c.rel (p6 i hi k hk)⟩
     ·cases ho
    ·cases ho
   ·cases ho
  ·cases ho
 ·cases ho
def aLn (C:Cfg U) (look:Nat->Option (aV U)) (t:TypeId) (p x:aB U):Out U:=
 match p,x with
 | .eptr id g i off sz,.msl id' k gk=>match look id,fU C.P t with
  |some (.deepS tx g0 gm xs i0),some 1=>cond (Nat.beq id id'&&Nat.beq g g0&&Nat.beq gk gm&&Nat.beq off 0&&Nat.beq sz 1)
    (some ([i=i0/\k=i0],.raw undef,some (id,.deep tx g0 gm xs))) none
  |_,_=>none
 |_,_=>none
theorem bIp {C:Cfg U} (h:RR C.E n N w0 ρ s a w) {look:Nat->Option (aV U)} (hlook:∀id ob,look id=some ob->s.objs id=some ob) {t:TypeId} {p x:aB U} {v u:Value} (hp:Rel C.E w ρ (aM N ρ w) p v) (hx:Rel C.E w ρ (aM N ρ w) x u)
  {cs:List Prop} {r:aB U} {ob:Option (Nat×aV U)} (ho:aLn C look t p x=some (cs,r,ob)) (hc:dE cs):
  ∃w' ρ',(Instr.storeAt t v u).run C.P w=.ok () w'/\RR C.E n N w0 ρ' (s.fK ob) a w'/\r=.raw undef:=by
 unfold aLn at ho;split at ho
 ·rename_i id g i off sz id' k gk;split at ho
  ·rename_i tx g0 gm xs i0 hid hm;obtain⟨hb,ho⟩:=bI ho;cases ho;simp only[Bool.and_eq_true] at hb;obtain⟨⟨⟨⟨bV,cA⟩,gZ⟩,kP⟩,hb5⟩:=hb;obtain rfl:=Nat.eq_of_beq_eq_true bV;obtain rfl:=Nat.eq_of_beq_eq_true cA;obtain rfl:=Nat.eq_of_beq_eq_true gZ;obtain rfl:=Nat.eq_of_beq_eq_true kP;obtain rfl:=Nat.eq_of_beq_eq_true hb5;obtain⟨rfl,rfl⟩:i=i0/\k=i0:=hc;obtain⟨ti,hti,htis⟩:=kK hm;have hid:=hlook _ _ hid;obtain⟨u1,cs,h1,hpp,h2,hsz,hno,h3⟩:=h.objs _ _ hid;have hix:∀g' u',ρ (.mem id k)=some (g',u')->k<xs.length:=fun g' u' hr=>by
    refine Classical.byContradiction fun hn=>?_
    rw[hno k (by omega)] at hr;cases hr
   have hr:ρ (.mem id k)=some (gk,u)/\u.oneCell'=true:=by
    cases hx with
    |msl _ _ _ _ hr=>exact⟨hr,(h.own hr).1⟩
    |mslOld _ _ _ g' u' _ hr hg=>
     obtain⟨t2,ws,v2,qI,p1,p2,_⟩:=h3 k (hix _ _ hr);rw[hr] at p2;simp only[Option.some.injEq,Prod.mk.injEq] at p2;omega
   obtain⟨hr,hone⟩:=hr;have hcu:u.cells=#[u]:=cells_one hone;cases hp with
   |eptrOld _ _ _ _ _ g' u' v hr hg=>
    rw[h1] at hr;simp only[Option.some.injEq,Prod.mk.injEq] at hr;omega
   |eptr _ _ _ _ _ b n' cap hrb hi=>
    rw[h1] at hrb;simp only[Option.some.injEq,Prod.mk.injEq,true_and] at hrb;subst hrb;rcases h2.2 with ⟨h0,_⟩|⟨gb,cap',cur,heq,hbase,hgb,hn,hcm,hcs,htake⟩
    ·cases h0
    simp only[Value.slice.injEq,Option.some.injEq,Addr.mk.injEq,and_true] at heq;obtain⟨rfl,rfl,rfl⟩:=heq;have hcs':=hcs;have htake':=htake;rw[hsz,Nat.mul_one] at hcs' htake';have hrun:=run_storeCells_at C.P b k (U.ety tx) [u] 0 cur w hgb (by simp;omega) (fun q hq=>by simp only[List.mem_singleton] at hq;subst hq;exact hone);simp only[Nat.add_zero] at hrun;have hcl:cur.toList.length=cap:=by simpa using hcs'
    have hget:∀q,q<xs.length->((cur.toList.take k++[u]++cur.toList.drop (k+[u].length)).take xs.length).getD q undef=if q=k then u else cs.getD q undef:=fun q hq=>by
     have e1:cs[q]?=cur.toList[q]?:=by
      rw[<- htake',List.getElem?_take,if_pos hq]
     simp only[List.getD_eq_getElem?_getD,List.getElem?_take,if_pos hq,e1];simp only[List.append_assoc,List.getElem?_append,List.length_take,hcl,List.length_singleton]
     by_cases hqi:q=k
     ·subst hqi;rw[if_pos rfl,if_neg (by omega),if_pos (by omega)];have:q-min q cap=0:=by omega
      simp[this]
     ·rw[if_neg hqi];congr 1
      by_cases hlt:q<k
      ·rw[if_pos (by omega),List.getElem?_take,if_pos hlt]
      ·rw[if_neg (by omega),if_neg (by omega),List.getElem?_drop];congr 1;omega
    let w2:=w.setRow b (cur.toList.take k++[u]++cur.toList.drop (k+[u].length)).toArray
    have hoth:∀nm g1 u1,nm≠ .ob id->ρ nm=some (g1,u1)->∀b',blk u1=some b'->w2.heap[b']?=w.heap[b']?:=fun nm g1 u1 hne cH b' hb'=>
     setRow_other w b b' _ (fun e=>h.sep _ _ _ _ _ _ b' cH h1 hne hb' (by simp[blk,e]))
    have c:Chg N (fun q=>q=id) w0.heap.size ρ ρ w w2:=⟨fun _ _=>rfl,fun _ _ _ _ cH=>.inl cH,xJ hbase w _,fun b' _ hne=>setRow_other w b b' _ (fun e=>hne _ _ _ rfl h1 (by simp[blk,e])),
     fun nm g1 u1 b' hd cH hb'=>.inl ⟨nm,g1,u1,hd,cH,hb'⟩,fun nm nm' g1 g2 u1 u2 b' _ _ cH jA hne bV=>h.sep _ _ _ _ _ _ b' cH jA hne bV⟩
    refine⟨w2,ρ,?_,h.change (s':=s.obj id (.deep tx g gk xs)) c rfl (fun q hq=>?_) (fun nm g1 u1 hd cH=>?_) (fun q ob hq ho=>?_) (fun q ob hq _=>⟨.deep tx g gk xs,by rw[hq];simp[ASt.obj]⟩),rfl⟩
    ·simp only[Instr.storeAt,Instr.sureAddr,storeVar,sizeOf,typeInfo,Sem.run_bind,Sem.run_pure,Result.andThen_ok,run_program,hti];have:¬((#[u]:Array Value).size≠ti.size):=by simp only[ne_eq,Decidable.not_not,htis];rfl
     simp only[hcu,if_neg this,Nat.mul_one,Nat.add_zero];exact hrun
    ·have:Nat.beq q id=false:=fG hq;simp[ASt.obj,this]
    ·exact⟨.deep tx g gk xs,by rw[hd];simp[ASt.obj],fun e=>by cases e⟩
    ·subst hq;have:(s.obj q (.deep tx g gk xs)).objs q=some (.deep tx g gk xs):=by simp[ASt.obj]
     rw[this] at ho;obtain rfl:=Option.some.inj ho;refine⟨_,(cur.toList.take k++[u]++cur.toList.drop (k+[u].length)).take xs.length,h1,hpp,⟨?_,.inr ⟨b,cap,_,rfl,hbase,setRow_heap w b cur _ _ (0,0) hgb,hn,hcm,?_,?_⟩⟩,hsz,hno,fun j hj=>?_⟩
     ·rw[hsz,Nat.mul_one];simp only[List.length_take,List.length_append,List.length_drop,List.length_singleton,hcl];omega
     ·rw[hsz,Nat.mul_one];simp only[List.size_toArray,List.length_append,List.length_take,List.length_drop,List.length_singleton,hcl];omega
     ·rw[hsz,Nat.mul_one]
     ·obtain⟨t2,ws,v2,qI,p1,p2,p3,p4,p5,p6⟩:=h3 j hj;refine⟨t2,ws,v2,qI,p1,p2,?_,p4,?_,fun i hi k hk=>c.rel (p6 i hi k hk)⟩
      ·rw[hget j hj]
       by_cases hjk:j=k
       ·subst hjk;rw[hr] at p2;cases p2;rw[if_pos rfl]
       ·rw[if_neg hjk];exact p3 hjk
      ·refine⟨p5.1,?_⟩;rcases p5.2 with hn'|⟨g',cap',cur',rfl,hb,hg,rest⟩
       ·exact .inl hn'
       ·exact .inr ⟨g',cap',cur',rfl,hb,by rw[hoth _ _ _ (fun e=>by cases e) p2 g' rfl];exact hg,rest⟩
  ·cases ho
 ·cases ho
def aFW (C:Cfg U) (look:Nat->Option (aV U)) (t:TypeId) (x ix:aB U):Out U:=
 match C.P.underlying t,x,ix with
 |some (.slice e),.osl id g,.int _ i=>match look id with
  |some (.deepS τ g' _ xs _)=>cond (Nat.beq g g'&&(match fU C.P e with|some n=>Nat.beq n (U.size τ)|none=>false))
    (some ([0<=i/\i<xs.length],.eptr id g i.toNat 0 (U.size τ),none)) none
  |_=>none
 |some (.array len e),.eptr id g j off sz,.int _ i=>match fU C.P e with
  |some q=>cond (storable look (.eptr id g j off sz)) (some ([0<=i/\i<len],.eptr id g j (off+i.toNat*q) sz,none)) none
  |none=>none
 |_,_,_=>none
theorem bFw {C:Cfg U} (h:RR C.E n N w0 ρ s a w) {look:Nat->Option (aV U)} (hlook:∀id ob,look id=some ob->s.objs id=some ob) {t:TypeId} {x ix:aB U} {u v:Value} (hx:Rel C.E w ρ (aM N ρ w) x u) (hix:Rel C.E w ρ (aM N ρ w) ix v)
  {cs:List Prop} {r:aB U} {ob:Option (Nat×aV U)} (ho:aFW C look t x ix=some (cs,r,ob)) (hc:dE cs):
  ob=none/\∃q,(Instr.indexAt t u v).run C.P w=.ok q w/\Rel C.E w ρ (aM N ρ w) r q:=by
 unfold aFW at ho;split at ho
 ·rename_i e id g ki i hu;split at ho
  ·rename_i τ g' gm xs i0 hid;obtain⟨hb,ho⟩:=bI ho;cases ho;simp only[Bool.and_eq_true] at hb;obtain rfl:=Nat.eq_of_beq_eq_true hb.1;obtain⟨ti,hti,hts⟩:=oF hb.2;cases hix;have h0:0<=i/\i<xs.length:=hc;obtain⟨u1,csx,h1,hpp,h2,_⟩:=h.objs _ _ (hlook _ _ hid);have qC:u1=u:=by
    cases hx with
    |osl _ _ u' hr' hp'=>
     rw[h1] at hr';simp only[Option.some.injEq,Prod.mk.injEq,true_and] at hr';exact hr'
    |oslOld _ _ g' u' v hr' hg=>
     rw[h1] at hr';simp only[Option.some.injEq,Prod.mk.injEq] at hr';omega
   subst qC;refine⟨rfl,?_⟩;have hi':=toNat_lt h0;rcases h2.2 with ⟨h0',fX⟩|⟨gb,cap,cur,rfl,hbase,hgb,hn,hcm,hcs,htake⟩
   ·omega
   ·refine⟨.pointer (some ⟨gb,i.toNat*U.size τ,none⟩),?_,?_⟩
    ·simp[Instr.indexAt,asIntOf,run_underlying hu,h0,sizeOf,typeInfo,hti,hts,addr_add]
    ·exact .eptr id g i.toNat 0 (U.size τ) gb xs.length cap h1 hi'
  ·cases ho
 ·rename_i len e id g j off sz ki i hu;split at ho
  ·rename_i q hq;obtain⟨hst,ho⟩:=bI ho;cases ho;obtain⟨ti,hti,rfl⟩:=kK hq;cases hix;have hi:0<=i/\i<len:=hc;refine⟨rfl,?_⟩;cases hx with
   |eptr _ _ _ _ _ b n' cap hr hi'=>
    refine⟨_,?_,.eptr id g j _ sz b n' cap hr hi'⟩;simp[Instr.indexAt,asIntOf,run_underlying hu,hi,sizeOf,typeInfo,hti,Instr.sureAddr,addr_add,Nat.add_assoc]
   |eptrOld _ _ _ _ _ g' u v hr hg=>
    unfold storable at hst;split at hst
    ·rename_i h0;cases h0
    ·rename_i id2 g2 _ _ _ h0;cases h0;split at hst
     ·rename_i t2 g3 xs2 hl;obtain rfl:=Nat.eq_of_beq_eq_true hst;obtain⟨u2,_,h2,_⟩:=h.objs _ _ (hlook _ _ hl);rw[hr] at h2;simp only[Option.some.injEq,Prod.mk.injEq] at h2;omega
     ·cases hst
    ·rename_i h0;cases h0
    ·rename_i h0;cases h0
    ·rename_i h1 h2 h3 h4;exact absurd rfl (h2 _ _ _ _ _)
  ·cases ho
 ·cases ho
def vJ (C:Cfg U) (look:Nat->Option (aV U)) (t:TypeId) (x:aB U) (lo hi:Option (aB U)):Out U:=
 match C.deep,C.P.underlying t,x with
 |false,some (.slice e),.osl id g=>match look id with
  |some (.row τ g' xs)=>cond (Nat.beq g g'&&(match fU C.P e with|some q=>Nat.beq q (U.size τ)|none=>false)) (match lo,hi with
   |some (.int _ l),some (.int _ h)=>some ([0<=l/\l<=h/\h<=xs.length],.ovw id g l.toNat h.toNat (U.size τ),none)
   |some (.int _ l),none=>some ([0<=l/\l<=xs.length],.ovw id g l.toNat xs.length (U.size τ),none)
   |none,some (.int _ h)=>some ([0<=h/\h<=xs.length],.ovw id g 0 h.toNat (U.size τ),none)
   |_,_=>none) none
  |_=>none
 |_,_,_=>none
theorem aI4 {C:Cfg U} (h:RR C.E n N w0 ρ s a w) {look:Nat->Option (aV U)} (hlook:∀id ob,look id=some ob->s.objs id=some ob) {t:TypeId} {x:aB U} {v:Value} (hx:Rel C.E w ρ (aM N ρ w) x v) {lo hi:Option (aB U)} {lo' hi':Option Value}
  (hlo:∀y,lo=some y->∃v,lo'=some v/\Rel C.E w ρ (aM N ρ w) y v) (hlo0:lo=none->lo'=none)
  (hhi:∀y,hi=some y->∃v,hi'=some v/\Rel C.E w ρ (aM N ρ w) y v) (hhi0:hi=none->hi'=none)
  {cs:List Prop} {r:aB U} {ob:Option (Nat×aV U)} (ho:vJ C look t x lo hi=some (cs,r,ob)) (hc:dE cs):
  ob=none/\∃q,(Instr.sliceAt t v lo' hi' none).run C.P w=.ok q w/\Rel C.E w ρ (aM N ρ w) r q:=by
 unfold vJ at ho;split at ho
 ·rename_i e id g hdp hu;split at ho
  ·rename_i τ g' xs hid;have hbb:=bI ho;clear ho;obtain⟨hb,ho⟩:=hbb;simp only[Bool.and_eq_true] at hb;obtain rfl:=Nat.eq_of_beq_eq_true hb.1;obtain⟨ti,hti,hts⟩:=oF hb.2;rw[aEK hu (fun _ _ e=>by cases e)];obtain⟨u1,csx,h1,hpp,h2,_⟩:=h.objs _ _ (hlook _ _ hid);have qC:u1=v:=by
    cases hx with
    |osl _ _ u' hr' hp'=>
     rw[h1] at hr';simp only[Option.some.injEq,Prod.mk.injEq,true_and] at hr';exact hr'
    |oslOld _ _ g' u' v hr' hg=>
     rw[h1] at hr';simp only[Option.some.injEq,Prod.mk.injEq] at hr';omega
   subst qC
   -- the slice's value
   obtain⟨ad,cap,rfl,hcap,hpart⟩:∃(ad:Option Addr) (cap:Nat),u1=.slice ad xs.length cap/\xs.length<=cap/\∀(l m:Nat),l<=m->m<=xs.length->Rel C.E w ρ (aM N ρ w) (.ovw id g l m (U.size τ)) (.slice (if cap=l then ad else ad.map (·.add (l*U.size τ))) (m-l) (cap-l)):=by
    rcases h2.2 with ⟨rfl,fX⟩|⟨gb,cap,cur,rfl,hbase,hgb,hn,hcm,hcs,htake⟩
    ·refine⟨none,0,by rw[fX],by omega,fun l m hl hm=>?_⟩;have nQ:l=0:=by omega
     have wQ:m=0:=by omega
     subst nQ;subst wQ;exact .ovw id g 0 0 (U.size τ) _ none 0 h1 hpp (Nat.le_refl _) (.inl ⟨rfl,rfl,rfl⟩)
    ·refine⟨some ⟨gb,0,none⟩,cap,rfl,hn,fun l m hl hm=>?_⟩;refine .ovw id g l m (U.size τ) _ _ (cap-l) h1 hpp hl (.inr ⟨gb,xs.length,cap,if cap=l then 0 else l*U.size τ,rfl,hm,?_,fun hlt=>by rw[if_neg (by omega)],by omega⟩)
     by_cases hcl:cap=l
     ·rw[if_pos hcl,if_pos hcl]
     ·rw[if_neg hcl,if_neg hcl,Option.map_some,addr_add,Nat.zero_add]
   split at ho
   ·rename_i kl l kh hh;simp only[Option.some.injEq,Prod.mk.injEq] at ho;obtain⟨rfl,rfl,rfl⟩:=ho;obtain⟨_,rfl,gN⟩:=hlo _ rfl;obtain⟨_,rfl,iR⟩:=hhi _ rfl;cases gN;cases iR;have h0:0<=l/\l<=hh/\hh<=xs.length:=hc;have bV:=lG (P:=C.P) (w:=w) (k:=kh) (code:=.sliceAcap) (show 0<=hh/\hh<=cap by omega);have cA:=lG (P:=C.P) (w:=w) (k:=kl) (code:=.sliceB) (show 0<=l/\l<=hh.toNat by omega);refine⟨rfl,_,?_,hpart l.toNat hh.toNat (by omega) (by omega)⟩;simp[Instr.slice,Instr.sliceBounds,run_underlying hu,bV,cA,sizeOf,typeInfo,hti,hts]
   ·rename_i kl l;simp only[Option.some.injEq,Prod.mk.injEq] at ho;obtain⟨rfl,rfl,rfl⟩:=ho;obtain⟨_,rfl,gN⟩:=hlo _ rfl;obtain rfl:=hhi0 rfl;cases gN;have h0:0<=l/\l<=xs.length:=hc;have cA:=lG (P:=C.P) (w:=w) (k:=kl) (code:=.sliceB) (show 0<=l/\l<=xs.length by omega);refine⟨rfl,_,?_,hpart l.toNat xs.length (by omega) (Nat.le_refl _)⟩;simp[Instr.slice,Instr.sliceBounds,run_underlying hu,cA,sizeOf,typeInfo,hti,hts]
   ·rename_i kh hh;simp only[Option.some.injEq,Prod.mk.injEq] at ho;obtain⟨rfl,rfl,rfl⟩:=ho;obtain⟨_,rfl,iR⟩:=hhi _ rfl;obtain rfl:=hlo0 rfl;cases iR;have h0:0<=hh/\hh<=xs.length:=hc;have bV:=lG (P:=C.P) (w:=w) (k:=kh) (code:=.sliceAcap) (show 0<=hh/\hh<=cap by omega);have:=hpart 0 hh.toNat (by omega) (by omega);refine⟨rfl,_,?_,this⟩;simp[Instr.slice,Instr.sliceBounds,run_underlying hu,bV,sizeOf,typeInfo,hti]
   ·cases ho
  ·cases ho
 ·cases ho
def aGb (C:Cfg U) (look:Nat->Option (aV U)) (d:Nat) (t:TypeId) (len:Nat):List (Nat×aB U)->Out U
 |[(0,.osl m gm)]=>match iD C t,look d,zeroCells (U:=U) C.P (match iD C t with|some τ=>U.ety τ|none=>0) with
  |some τ,none,some z=>cond (C.deep&&!C.pur&&storable look (.osl m gm)&&Nat.beq len 1&&Nat.beq (U.size τ) 1&&Nat.beq z.length (U.size τ)) (some ([],.osl d 0,some (d,.one τ 0 m gm))) none
  |_,_,_=>none
 |_=>none
theorem bK5 {C:Cfg U} (h:RR C.E n N w0 ρ s a w) {look:Nat->Option (aV U)} (hlook:∀id ob,look id=some ob->s.objs id=some ob) {d:Nat} (hf:look d=none->s.objs d=none) {t:TypeId} {len:Nat}
  {parts:List (Nat×aB U)} {parts':Array (Nat×Value)} (hpl:parts.length=parts'.size)
  (hp:∀k (h:k<parts.length) (h':k<parts'.toList.length),parts[k].1=parts'.toList[k].1/\Rel C.E w ρ (aM N ρ w) parts[k].2 parts'.toList[k].2)
  {cs:List Prop} {r:aB U} {ob:Option (Nat×aV U)} (ho:aGb C look d t len parts=some (cs,r,ob)):
  ∃v' w' ρ',(Instr.buildSlice t len parts').run C.P w=.ok v' w'/\RR C.E n N w0 ρ' (s.fK ob) a w'/\Rel C.E w' ρ' (aM N ρ' w') r v':=by
 unfold aGb at ho;split at ho
 ·rename_i m gm;split at ho
  ·rename_i τ z hτ hfree hz;obtain⟨hb,ho⟩:=bI ho;cases ho;simp only[Bool.and_eq_true] at hb;obtain⟨⟨⟨⟨_,hst⟩,bV⟩,gZ⟩,kP⟩:=hb;obtain rfl:=Nat.eq_of_beq_eq_true bV;have hsz:=Nat.eq_of_beq_eq_true gZ;have hzl:=Nat.eq_of_beq_eq_true kP;rw[hτ] at hz;simp only at hz;obtain⟨hu,i,hi,his⟩:=mH hτ;obtain⟨zv,hzr,hzsz,hzrel⟩:=pB (E:=C.E) (w:=w) (ρ:=ρ) hz;have hps:parts'.toList.length=1:=by simpa using hpl.symm
   obtain⟨q1,q2⟩:=hp 0 (by simp) (by omega);simp only[List.getElem_cons_zero] at q1 q2;obtain⟨⟨i0,um⟩,hpe⟩:∃x,parts'.toList=[x]:=List.length_eq_one_iff.1 hps;simp only[hpe,List.getElem_cons_zero] at q1 q2;subst q1;have hpe':parts'=#[(0,um)]:=by rw[<- Array.toArray_toList (xs:=parts'),hpe]
   subst hpe';have hone:um.oneCell'=true:=sG h hlook q2 hst;have hcu:um.cells=#[um]:=cells_one hone;have hrow:((Array.range (1*1)).map (fun k=>zv.cells[k % zv.cells.size]!)).size=1:=by simp
   have hfill:Instr.fill (fun i=>some (i*1,1)) ((Array.range (1*1)).map (fun k=>zv.cells[k % zv.cells.size]!)) [(0,um)]=some #[um]:=by
    generalize (Array.range (1*1)).map (fun k=>zv.cells[k % zv.cells.size]!)=base at hrow;obtain⟨b0,rfl⟩:∃b0,base=#[b0]:=by
     obtain⟨l⟩:=base;simp only[List.size_toArray] at hrow;obtain⟨x,rfl⟩:=List.length_eq_one_iff.1 hrow;exact⟨x,rfl⟩
    simp[Instr.fill,hcu]
   have hfree':=hf hfree;have hnone:=h.oB hfree'
   let w2:=w.alloc (.cells #[um] (U.ety τ))
   let vn:Value:=.slice (some ⟨w.heap.size,0,none⟩) 1 1
   have hvn:∀a,vn≠ .pointer a:=fun a e=>by
    have e':(Value.slice (some ⟨w.heap.size,0,none⟩) 1 1)=.pointer a:=e;cases e'
   have hbel:Below w.heap.size w w2:=(Below.refl _ _).alloc (Nat.le_refl _) _;have hold:∀g u,ρ (.ob d)=some (g,u)->(g=0/\u=vn)\/((∀a,u≠ .pointer a)/\g<0):=fun g u hr=>(hnone _ _ hr).elim
   have hsame:∀b,b<w.heap.size->(∀g u,ρ (.ob d)=some (g,u)->blk u≠some b)->w2.heap[b]?=w.heap[b]?:=fun b hb _=>hbel.block b hb
   have hnew:∀b,blk vn=some b->(∃g u,ρ (.ob d)=some (g,u)/\blk u=some b)\/(w.heap.size<=b):=fun b hb=>by
    have hb':some w.heap.size=some b:=hb;cases hb';exact .inr (Nat.le_refl _)
   have hsimp:∀ob,s.objs d=some ob->ob.simple=true:=fun ob ho=>by rw[hfree'] at ho;cases ho
   refine⟨vn,w2,bZ ρ d 0 vn,?_,h.upd d 0 vn (.one τ 0 m gm) hsimp hold (hbel.mono h.below.size) hsame hnew ?_,.osl d 0 vn (by simp[bZ]) hvn⟩
   ·have iT:¬1*i.size > 2^24:=by rw[his,hsz];simp
    have h0:¬1*i.size=0:=by rw[his,hsz];simp
    rw[his,hsz] at iT h0;simp only[Instr.buildSlice,Sem.run_bind,run_underlying hu,Result.andThen_ok,sizeOf,typeInfo,run_program,hi,Sem.run_pure,his,hsz,if_neg iT,if_neg h0,hzr,hfill,newRow,run_newObj];rfl
   ·refine⟨vn,[um],by simp[bZ],hvn,⟨by simp[hsz],.inr ⟨w.heap.size,1,#[um],rfl,h.below.size,heap_alloc_new w _,by simp,by unfold maxLen;omega,by simp[hsz],by simp[hsz]⟩⟩,hsz,?_,hone⟩;exact h.oA d 0 vn hsimp hold (hbel.mono h.below.size) hsame hnew q2
  ·cases ho
 ·cases ho
def aMG (C:Cfg U) (look:Nat->Option (aV U)) (d:Nat) (ts:List TypeId) (x y:aB U):Out U:=
 match ts,y with
 |[t,t'],.osl q gq=>cond (Nat.beq t t') (match iD C t,look q with
  |some τ,some (.one τy gy m gm)=>match C.P.info? (U.ety τ),kD τ τy [] with
   |some i,some _=>match i.zero with
    |some z=>cond (Nat.beq z.cells.size (U.size τ)&&Nat.ble 1 i.bytes&&Nat.beq gq gy) (match x with
     | .nils=>match look d with
      |none=>some ([i.bytes<=140737488355328],.osl d 0,some (d,.deepF τ 0 0 [] m gm))
      |some _=>none
     | .osl id g=>match look id with
      |some (.deep τx g' gx xs)=>match kD τ τx xs with
       |some us=>cond (Nat.beq g g') (some ([(us.length+1)*i.bytes<=140737488355328],.osl id (g+1),some (id,.deepF τ (g+1) gx us m gm))) none
       |none=>none
      |_=>none
     |_=>none) none
    |none=>none
   |_,_=>none
  |_,_=>none) none
 |_,_=>none
theorem bLF {C:Cfg U} (h:RR C.E n N w0 ρ s a w) {look:Nat->Option (aV U)} (hlook:∀id ob,look id=some ob->s.objs id=some ob) {d:Nat} (hf:look d=none->s.objs d=none)
  {argTypes:Array TypeId} {ty:TypeId} {x y:aB U} {u v:Value} (hx:Rel C.E w ρ (aM N ρ w) x u) (hy:Rel C.E w ρ (aM N ρ w) y v)
  {cs:List Prop} {r:aB U} {ob:Option (Nat×aV U)} (ho:aMG C look d argTypes.toList x y=some (cs,r,ob)) (hc:dE cs):
  ∃v' w' ρ',(Builtin.append_ argTypes ty #[u,v]).run C.P w=.ok v' w'/\RR C.E n N w0 ρ' (s.fK ob) a w'/\Rel C.E w' ρ' (aM N ρ' w') r v':=by
 unfold aMG at ho;split at ho
 ·rename_i t t' q gq hat;have hbo:=bI ho;clear ho;obtain⟨hb,ho⟩:=hbo;obtain rfl:=Nat.eq_of_beq_eq_true hb;have hargs:argTypes=#[t,t]:=by rw[<- Array.toArray_toList (xs:=argTypes),hat]
  subst hargs;split at ho
  ·rename_i τ τy gy m gm hτ hq;split at ho
   ·rename_i i l0 hi hcast;obtain⟨rfl,_⟩:=kS hcast;split at ho
    ·rename_i z hz;have hbo:=bI ho;clear ho;obtain⟨cA,ho⟩:=hbo;simp only[Bool.and_eq_true] at cA;obtain⟨⟨hzs,hby⟩,hgy⟩:=cA;have hzs:=Nat.eq_of_beq_eq_true hzs;have hby:=Nat.le_of_ble_eq_true hby;obtain rfl:=Nat.eq_of_beq_eq_true hgy;obtain⟨hu,i',hi',his⟩:=mH hτ;rw[hi] at hi';obtain rfl:=Option.some.inj hi';obtain⟨uy,csy,y1,y2,y3,y4,y5,y6⟩:=h.objs _ _ (hlook _ _ hq);have hvy:uy=v:=by
      cases hy with
      |osl _ _ u' hr' hp'=>
       rw[y1] at hr';simp only[Option.some.injEq,Prod.mk.injEq,true_and] at hr';exact hr'
      |oslOld _ _ g' u' v hr' hg=>
       rw[y1] at hr';simp only[Option.some.injEq,Prod.mk.injEq] at hr';omega
     subst hvy;have hcy:aDN w 1 (U.size τy) (fun _=>csy.getD 0 undef) uy:=by
      rcases y3.2 with ⟨h0,fX⟩|⟨gb,cap,cur,heq,hbase,hgb,hn,hcm,hcs,htake⟩
      ·cases fX
      ·refine .inr ⟨gb,0,cap,heq,hn,fun j hj=>?_⟩;rw[y4,Nat.mul_one] at hj;have lF:j=0:=by omega
       subst lF;rw[y4,Nat.one_mul] at htake;have h6:csy[0]?=cur[0]?:=by
        rw[<- htake,List.getElem?_take,if_pos (by omega)];simp
       have hlt:0<csy.length:=by rw[y3.1,y4];omega
       refine⟨?_,y6⟩;rw[Nat.add_zero,cell_of_row w gb 0 cur _ (0,0) hgb,<- h6];simp[hlt]
     -- both forms in one
     have main:∀(id g' gx:Nat) (xs:List (U.T τy)) (gD:List Value),(∀ob,s.objs id=some ob->ob.simple=false)->w.ownsRow w0.heap.size (U.ety τy) (U.size τy) u xs.length gD->(∀a,u≠ .pointer a)->
       ((∃g,ρ (.ob id)=some (g,u)/\g<g')\/(ρ (.ob id)=none/\u=.slice none 0 0))->(∀j,xs.length<=j->ρ (.mem id j)=none)->
       (∀j (hj:j<xs.length),∃t1 ys v ds,C.E.enc τy xs[j]=[.sl t1 ys]/\ρ (.mem id j)=some (gx,v)/\gD.getD j undef=v/\(∀a,v≠ .pointer a)/\w.ownsRow w0.heap.size (U.ety t1) (U.size t1) v ys.length ds/\
        ∀i (h:i<ys.length) k (hk:k<(C.E.enc t1 ys[i]).length),Rel C.E w ρ (aM N ρ w) (C.E.enc t1 ys[i])[k] (ds.getD (i*U.size t1+k) undef))->
       (xs.length+1)*i.bytes<=140737488355328->
       ∃v' w' ρ',(Builtin.append_ #[t,t] ty #[u,uy]).run C.P w=.ok v' w'/\RR C.E n N w0 ρ' (s.fK (some (id,.deepF τy g' gx xs m gm))) a w'/\Rel C.E w' ρ' (aM N ρ' w') (.osl id g') v':=by
      intro id g' gx xs gD hids hown hpu hob hno hmem hbytes;obtain⟨v',w',hrun,hown',hgrow,hpv,hblk⟩:=aHl (P:=C.P) (ty:=ty) (base:=w0.heap.size) hu hi hz his hzs (C.E.pos τy) hby hown hpu hcy hbytes h.below.size
      let ρ2:Own:=gT ρ id (some (g',v')) (fun j=>ρ (.mem id j))
      have eid:ρ2 (.ob id)=some (g',v'):=pN;have emem:∀j,ρ2 (.mem id j)=ρ (.mem id j):=fun j=>pO
      have c:Chg N (fun q=>q=id) w0.heap.size ρ ρ2 w w':=by
       refine aJW h (fun nm hn=>kL hn) (fun nm g1 u1 hd cH=>?_) ((Below.refl _ _).grown hgrow h.below.size (fun k hk=>?_)) (fun b hb hne=>hgrow.block b hb (fun e=>?_)) (.ob id) (fun nm g1 u1 b hd cH hb=>?_)
       ·cases nm with
        |ob q=>
         obtain rfl:q=id:=hd;rcases hob with ⟨g0,h0,hg⟩|⟨h0,_⟩
         ·rw[cH] at h0;cases h0;exact .inr ⟨hpu,_,_,eid,hg⟩
         ·rw[cH] at h0;cases h0
        |mem q j=>
         obtain rfl:q=id:=hd;exact .inl (by rw[emem];exact cH)
       ·rcases hob with ⟨g0,h0,_⟩|⟨_,h0⟩
        ·exact((h.own h0).2 k (by rw[<- iG hpu];exact hk)).1
        ·rw[h0] at hk;cases hk
       ·rcases hob with ⟨g0,h0,_⟩|⟨_,h0⟩
        ·exact hne (.ob id) g0 u rfl h0 (by rw[<- iG hpu];exact e.symm)
        ·rw[h0] at e;cases e
       ·cases nm with
        |ob q=>
         obtain rfl:q=id:=hd;rw[eid] at cH;cases cH;rcases hblk b hb with hb'|hb'
         ·rcases hob with ⟨g0,h0,_⟩|⟨_,h0⟩
          ·exact .inl ⟨g0,u,h0,hb'⟩
          ·rw[h0] at hb';cases hb'
         ·exact .inr ⟨rfl,hb'⟩
        |mem q j=>
         obtain rfl:q=id:=hd;rw[emem] at cH;exact .inl ⟨_,_,cH,hb⟩
      have keep:∀{nm:Name} {g1:Nat} {u1:Value} {e:TypeId} {m k:Nat} {cs:List Value},nm≠ .ob id->ρ nm=some (g1,u1)->(∀a,u1≠ .pointer a)->w.ownsRow w0.heap.size e m u1 k cs->w'.ownsRow w0.heap.size e m u1 k cs:=fun {nm g1 u1 e m k cs} hne cH jL hw=>by
       refine hw.kept hgrow ?_;rw[iG hpu,iG jL];cases hq1:blk u1 with
       |none=>exact .inl rfl
       |some b=>
        rcases hob with ⟨g0,h0,_⟩|⟨_,h0⟩
        ·exact .inr (fun e=>h.sep _ _ _ _ _ _ b cH h0 hne hq1 e.symm)
        ·exact .inr (fun e=>by rw[h0] at e;cases e)
      obtain⟨o1,o3⟩:=aJ1 s id 0 (.deepF τy g' gx xs m gm) .any;have hR:=h.change (s':=s.obj id (.deepF τy g' gx xs m gm)) c rfl (fun q hq=>o1 q hq) (fun nm g u hq hr=>?_) (fun p ob hp ho=>?_) (fun q ob hq _=>⟨_,(congrArg _ hq).trans o3⟩)
      ·exact⟨v',w',ρ2,hrun,hR,.osl id g' v' eid hpv⟩
      ·exact⟨_,by rw[hq];exact o3,fun e=>by cases e⟩
      ·subst hp;rw[show (s.obj p (.deepF τy g' gx xs m gm)).objs p=some (.deepF τy g' gx xs m gm) from o3] at ho;cases ho;have hcl:gD.length=xs.length:=by rw[hown.1,y4,Nat.mul_one]
       have hlast:(gD++(List.range (1*U.size τy)).map fun _=>csy.getD 0 undef).getD xs.length undef=csy.getD 0 undef:=by
        rw[y4,<- hcl];simp
       refine⟨v',_,eid,hpv,hown',y4,fun j hj=>by rw[emem];exact hno j hj,by rw[hlast];exact c.rel y5,fun j hj=>?_⟩;obtain⟨t1,ws,v1,ds,r1,r2,r3,r4,r5,r6⟩:=hmem j hj;refine⟨t1,ws,v1,ds,r1,by rw[emem];exact r2,?_,r4,keep (fun e=>by cases e) r2 r4 r5,fun i hi k hk=>c.rel (r6 i hi k hk)⟩;rw[<- r3];simp[List.getElem?_append,show j<gD.length by omega]
     split at ho
     ·split at ho
      ·rename_i hfree;cases ho;cases hx;have hfree':=hf hfree;have hnone:=h.oB hfree';exact main d 0 0 [] [] (fun ob ho=>by rw[hfree'] at ho;cases ho) (World.ownsRow_nil _ _ _ _) (fun a e=>by cases e) (.inr ⟨by
        cases hq:ρ (.ob d) with
        |none=>rfl
        |some p=>exact(hnone p.1 p.2 hq).elim,rfl⟩) (fun j _=>h.pV (fun ob ho=>by rw[hfree'] at ho;cases ho) j) (fun j hj=>absurd hj (by simp)) (by
        have:i.bytes<=140737488355328:=hc;simpa using this)
      ·cases ho
     ·rename_i id g;split at ho
      ·rename_i τx g' gx xs0 hid;split at ho
       ·rename_i us hus;obtain⟨gZ,ho⟩:=bI ho;cases ho;obtain rfl:=Nat.eq_of_beq_eq_true gZ;obtain⟨rfl,rfl⟩:=kS hus;have hid':=hlook _ _ hid;obtain⟨ux,csx,x1,x2,x3,x4,x5,x6⟩:=h.objs _ _ hid';have hvx:ux=u:=by
         cases hx with
         |osl _ _ u' hr' hp'=>
          rw[x1] at hr';simp only[Option.some.injEq,Prod.mk.injEq,true_and] at hr';exact hr'
         |oslOld _ _ g' u' v hr' hg=>
          rw[x1] at hr';simp only[Option.some.injEq,Prod.mk.injEq] at hr';omega
        subst hvx;exact main id (g+1) gx xs0 csx (fun ob ho=>by rw[hid'] at ho;cases ho;rfl) x3 x2 (.inl ⟨g,x1,by omega⟩) x5 x6 hc
       ·cases ho
      ·cases ho
     ·cases ho
    ·cases ho
   ·cases ho
  ·cases ho
 ·cases ho
theorem bA2 {P:Program} (dT sT ty elem:TypeId) {sz:Nat} (g o dLen dCap:Nat) (a:Addr) (sLen sCap:Nat) (cur:Array Value) (t:TypeId) (cs:List Value)
  (hu:P.underlying dT=some (.slice elem)) {i:TypeInfo} (hi:P.info? elem=some i) (hs:i.size=sz)
  (hg:w.heap[g]?=some (.cells cur t (0,0))) (hn:cs.length=Nat.min sLen dLen*sz)
  (hsrc:∀j v,cs[j]?=some v->w.cell? (a.add j)=some v) (hfit:o+cs.length<=cur.size) (h1:∀v∈cs,v.oneCell'=true):
  (Builtin.copy_ #[dT,sT] ty #[.slice (some ⟨g,o,none⟩) dLen dCap,.slice (some a) sLen sCap]).run P w=
   .ok (goInt (Nat.min sLen dLen)) (w.setRow g (cur.toList.take o++cs++cur.toList.drop (o+cs.length)).toArray):=by
 have hl:=run_loadCells_list (P:=P) w a cs hsrc;have hst:=run_storeCells_at P g o t cs 0 cur w hg (by simpa using hfit) h1;rw[hn] at hl;simp only[Nat.add_zero] at hst;simp[Builtin.copy_,run_underlying hu,Builtin.lenOf,Builtin.firstCells,sizeOf,typeInfo,hi,hs,hl,hst]
def aLt (look:Nat->Option (aV U)) (τ:U.τ):aB U->Option (Nat×Nat×Nat×Nat×List (U.T τ))
 | .osl id g=>match look id with
  |some (.row t2 g' xs)=>match kD τ t2 xs with
   |some us=>cond (Nat.beq g g') (some (id,g,0,us.length,us)) none
   |none=>none
  |_=>none
 | .ovw id g lo hi sz=>match look id with
  |some (.row t2 g' xs)=>match kD τ t2 xs with
   |some us=>cond (Nat.beq g g'&&Nat.beq sz (U.size τ)) (some (id,g,lo,hi,us)) none
   |none=>none
  |_=>none
 |_=>none
theorem bJC {E:Enc U} (h:RR E n N w0 ρ s a w) {look:Nat->Option (aV U)} (hlook:∀id ob,look id=some ob->s.objs id=some ob) {τ:U.τ} {x:aB U} {v:Value} (hx:Rel E w ρ (aM N ρ w) x v)
  {id g lo hi:Nat} {xs:List (U.T τ)} (hd:aLt look τ x=some (id,g,lo,hi,xs)):
  s.objs id=some (.row τ g xs)/\lo<=hi/\∃u ad c,ρ (.ob id)=some (g,u)/\v=.slice ad (hi-lo) c/\
   ((ad=none/\c=0/\lo=hi)\/∃b n cap o,u=.slice (some ⟨b,0,none⟩) n cap/\hi<=n/\ad=some ⟨b,o,none⟩/\(lo<hi->o=lo*U.size τ)/\hi-lo<=c):=by
 unfold aLt at hd;split at hd
 ·rename_i id' g1;split at hd
  ·rename_i t2 g' ys hl;split at hd
   ·rename_i us hus;obtain⟨hb,hd⟩:=bI hd;obtain⟨rfl,rfl⟩:=kS hus;simp only[Option.some.injEq,Prod.mk.injEq] at hd;obtain⟨rfl,rfl,rfl,rfl,rfl⟩:=hd;obtain rfl:=Nat.eq_of_beq_eq_true hb;have hl':=hlook _ _ hl;obtain⟨u1,cs,h1,hp,h2,_⟩:=h.objs _ _ hl';have huv:u1=v:=by
     cases hx with
     |osl _ _ u' hr' hp'=>
      rw[h1] at hr';simp only[Option.some.injEq,Prod.mk.injEq,true_and] at hr';exact hr'
     |oslOld _ _ g' u' v hr' hg=>
      rw[h1] at hr';simp only[Option.some.injEq,Prod.mk.injEq] at hr';omega
    subst huv;refine⟨hl',Nat.zero_le _,?_⟩;rcases h2.2 with ⟨rfl,fX⟩|⟨gb,cap,cur,rfl,hbase,hgb,hn,hcm,hcs,htake⟩
    ·exact⟨_,none,0,h1,by rw[fX],.inl ⟨rfl,rfl,fX.symm⟩⟩
    ·exact⟨_,some ⟨gb,0,none⟩,cap,h1,by rw[Nat.sub_zero],.inr ⟨gb,ys.length,cap,0,rfl,Nat.le_refl _,rfl,fun _=>by rw[Nat.zero_mul],by omega⟩⟩
   ·cases hd
  ·cases hd
 ·rename_i id' g1 lo1 hi1 sz;split at hd
  ·rename_i t2 g' ys hl;split at hd
   ·rename_i us hus;obtain⟨hb,hd⟩:=bI hd;obtain⟨rfl,rfl⟩:=kS hus;simp only[Option.some.injEq,Prod.mk.injEq] at hd;obtain⟨rfl,rfl,rfl,rfl,rfl⟩:=hd;simp only[Bool.and_eq_true] at hb;obtain rfl:=Nat.eq_of_beq_eq_true hb.1;obtain rfl:=Nat.eq_of_beq_eq_true hb.2;have hl':=hlook _ _ hl;obtain⟨u1,cs,h1,hp,h2,_⟩:=h.objs _ _ hl';cases hx with
    |ovwOld _ _ _ _ _ g' u' v hr' hg=>
     rw[h1] at hr';simp only[Option.some.injEq,Prod.mk.injEq] at hr';omega
    |ovw _ _ _ _ _ u' ad c hr' _ hle had=>exact⟨hl',hle,_,ad,c,hr',rfl,had⟩
   ·cases hd
  ·cases hd
 ·cases hd
def aML (C:Cfg U) (look:Nat->Option (aV U)) (ts:List TypeId) (x y:aB U):Out U:=
 match ts with
 |[t,_]=>match iD C t with
  |some τ=>match aLt look τ x,rowOf C.E look τ y with
   |some (id,g,lo,hi,xs),some ys=>cond C.pur none (some ([],.int .i64 ((min ys.length (hi-lo):Nat):Int),some (id,.row τ g (xs.take lo++ys.take (min ys.length (hi-lo))++xs.drop (lo+min ys.length (hi-lo))))))
   |_,_=>none
  |none=>none
 |_=>none
theorem bDJ {s:ASt U} {id:Nat} {ob:aV U} (h:s.objs id=some ob):s.obj id ob=s:=by
 cases s with
 |mk t o=>
  simp only[ASt.obj,ASt.mk.injEq,true_and];funext i
  by_cases hi:i=id
  ·subst hi;rw[Nat.beq_refl];exact h.symm
  ·rw[fG hi];rfl
theorem bLY {C:Cfg U} (h:RR C.E n N w0 ρ s a w) {look:Nat->Option (aV U)} (hlook:∀id ob,look id=some ob->s.objs id=some ob)
  {argTypes:Array TypeId} {ty:TypeId} {x y:aB U} {u v:Value} (hx:Rel C.E w ρ (aM N ρ w) x u) (hy:Rel C.E w ρ (aM N ρ w) y v)
  {cs:List Prop} {r:aB U} {ob:Option (Nat×aV U)} (ho:aML C look argTypes.toList x y=some (cs,r,ob)):
  ∃v' w' ρ',(Builtin.copy_ argTypes ty #[u,v]).run C.P w=.ok v' w'/\RR C.E n N w0 ρ' (s.fK ob) a w'/\Rel C.E w' ρ' (aM N ρ' w') r v':=by
 unfold aML at ho;split at ho
 ·rename_i t t' hat;have hargs:argTypes=#[t,t']:=by rw[<- Array.toArray_toList (xs:=argTypes),hat]
  subst hargs;split at ho
  ·rename_i τ hτ;split at ho
   ·rename_i id g lo hi xs ys hd hys;obtain⟨_,ho⟩:=aLw ho;cases ho;obtain⟨hid,hle,u0,ad,c,kA,rfl,had⟩:=bJC h hlook hx hd;obtain⟨hu,i,hi',his⟩:=mH hτ;have hy2:=aIb h hlook hy hys;obtain⟨u1,cs,h1,hp,h2,h3⟩:=h.objs _ _ hid;rw[kA] at h1;cases h1
    -- nothing is copied
    have none_:min ys.length (hi-lo)=0->(Builtin.copy_ #[t,t'] ty #[.slice ad (hi-lo) c,v]).run C.P w=.ok (goInt 0) w->
      ∃v' w' ρ',(Builtin.copy_ #[t,t'] ty #[.slice ad (hi-lo) c,v]).run C.P w=.ok v' w'/\RR C.E n N w0 ρ' (s.fK (some (id,.row τ g (xs.take lo++ys.take (min ys.length (hi-lo))++xs.drop (lo+min ys.length (hi-lo)))))) a w'/\
       Rel C.E w' ρ' (aM N ρ' w') (.int .i64 ((min ys.length (hi-lo):Nat):Int)) v':=fun h0 hrun=>by
     refine⟨_,w,ρ,hrun,?_,?_⟩
     ·rw[h0];simp only[List.take_zero,List.append_nil,Nat.add_zero,List.take_append_drop];show RR C.E n N w0 ρ (s.obj id (.row τ g xs)) a w;rw[bDJ hid];exact h
     ·rw[h0];exact .int _ _
    rcases hy2 with ⟨⟨ad2,rfl⟩,rfl⟩|⟨b2,o2,cap2,f,rfl,hcap2,hcc,hl⟩
    ·refine none_ (by simp) ?_;rcases had with ⟨rfl,rfl,rfl⟩|⟨b,n',cap,o,rfl,hn,rfl,hoo,hcap⟩
     ·cases ad2<;>simp[Builtin.copy_,run_underlying hu,Builtin.lenOf,Builtin.firstCells,sizeOf,typeInfo,hi',loadCells,loadCellsFrom]
     ·cases ad2<;>simp[Builtin.copy_,run_underlying hu,Builtin.lenOf,Builtin.firstCells,sizeOf,typeInfo,hi',storeCells,loadCells,loadCellsFrom]
    ·rcases Nat.eq_zero_or_pos (min ys.length (hi-lo)) with h0|hpos
     ·refine none_ h0 ?_;have h0':ys.length.min (hi-lo)=0:=h0;rcases had with ⟨rfl,rfl,rfl⟩|⟨b,n',cap,o,rfl,hn,rfl,hoo,hcap⟩
      ·simp[Builtin.copy_,run_underlying hu,Builtin.lenOf,Builtin.firstCells,sizeOf,typeInfo,hi',loadCells,loadCellsFrom]
      ·simp[Builtin.copy_,run_underlying hu,Builtin.lenOf,Builtin.firstCells,sizeOf,typeInfo,hi',storeCells,loadCells,loadCellsFrom,h0']
     ·generalize hm:min ys.length (hi-lo)=m at hpos;rcases had with ⟨rfl,rfl,rfl⟩|⟨b,n',cap,o,rfl,hn,rfl,hoo,hcap⟩
      ·omega
      have hol:=hoo (by omega);subst hol;rcases h2.2 with ⟨e0,_⟩|⟨gb,cap',cur,heq,hbase,hgb,hnn,hcm,hcs,htake⟩
      ·cases e0
      simp only[Value.slice.injEq,Option.some.injEq,Addr.mk.injEq,and_true] at heq;obtain⟨rfl,rfl,rfl⟩:=heq;have hsz:=C.E.pos τ;have hms:m*U.size τ<=ys.length*U.size τ:=Nat.mul_le_mul_right _ (by omega);have hfit:lo*U.size τ+m*U.size τ<=xs.length*U.size τ:=by
       rw[<- Nat.add_mul];exact Nat.mul_le_mul_right _ (by omega)
      have hfit2:xs.length*U.size τ<=cap*U.size τ:=Nat.mul_le_mul_right _ hnn;have hcells:((List.range (m*U.size τ)).map f).length=m*U.size τ:=by simp
      have hrun:=bA2 (P:=C.P) (w:=w) t t' ty (U.ety τ) (sz:=U.size τ) b (lo*U.size τ) (hi-lo) c ⟨b2,o2,none⟩ ys.length cap2 cur (U.ety τ) ((List.range (m*U.size τ)).map f) hu hi' his hgb
       (by rw[hcells];show m*_=min _ _*_;rw[hm]) (fun j x hj=>by
        have hjl:j<m*U.size τ:=by
         have:=(List.getElem?_eq_some_iff.1 hj).1;simpa using this
        rw[addr_add,hcc j (by omega)];have:=(List.getElem?_eq_some_iff.1 hj).2;simp at this;rw[this]) (by rw[hcells,hcs];omega) (fun x hx=>by
        obtain⟨j,hj,rfl⟩:=List.mem_map.1 hx;have hj':j<m*U.size τ:=by simpa using hj
        obtain⟨f',hf',hl'⟩:=aVe (E:=C.E) h (.inr ⟨b2,o2,cap2,f,rfl,hcap2,hcc,hl⟩:uK C.E w ρ (aM N ρ w) τ ys (.slice (some ⟨b2,o2,none⟩) ys.length cap2));rcases hf' with ⟨⟨_,e0⟩,_⟩|⟨b3,o3,cap3,e3,_,wS⟩
        ·simp only[Value.slice.injEq] at e0;rw[e0.2.1,Nat.zero_mul] at hms;omega
        ·simp only[Value.slice.injEq,Option.some.injEq,Addr.mk.injEq,and_true] at e3;obtain⟨⟨rfl,rfl⟩,_,rfl⟩:=e3;obtain⟨q1,q2⟩:=wS j (by omega);rw[hcc j (by omega)] at q1;rw[Option.some.inj q1];exact q2)
      rw[show Nat.min ys.length (hi-lo)=m from hm] at hrun
      let nc:List Value:=cur.toList.take (lo*U.size τ)++(List.range (m*U.size τ)).map f++cur.toList.drop (lo*U.size τ+((List.range (m*U.size τ)).map f).length)
      have hcl:cur.toList.length=cap*U.size τ:=by simpa using hcs
      have hncl:nc.length=cap*U.size τ:=by
       simp only[nc,List.length_append,List.length_take,List.length_drop,hcells,hcl];omega
      have hold:∀g1 u',ρ id=some (g1,u')->(g1=g/\u'=.slice (some ⟨b,0,none⟩) xs.length cap)\/((∀a,u'≠ .pointer a)/\g1<g):=fun g1 u' hr=>by
       rw[kA] at hr;simp only[Option.some.injEq,Prod.mk.injEq] at hr;exact .inl ⟨hr.1.symm,hr.2.symm⟩
      have hsame:∀b',b'<w.heap.size->(∀g u',ρ id=some (g,u')->blk u'≠some b')->(w.setRow b nc.toArray).heap[b']?=w.heap[b']?:=fun b' _ hne=>
       setRow_other w b b' _ (fun e=>hne _ _ kA (by simp[blk,e]))
      have hnew:∀b',blk (.slice (some ⟨b,0,none⟩) xs.length cap)=some b'->(∃g u',ρ id=some (g,u')/\blk u'=some b')\/(w.heap.size<=b'):=fun b' hb'=>.inl ⟨_,_,kA,hb'⟩
      have hsimp:∀ob,s.objs id=some ob->ob.simple=true:=fun ob ho=>by rw[hid] at ho;cases ho;rfl
      have hb:=xJ hbase w nc.toArray;have hup:=fun {x:aB U} {v:Value} (hx:Rel C.E w ρ (aM N ρ w) x v)=>h.oA id g (.slice (some ⟨b,0,none⟩) xs.length cap) hsimp hold hb hsame hnew hx
      -- the new row's cells
      have hlist:nc.take (xs.length*U.size τ)=(cs.take (lo*U.size τ)++(List.range ((ys.take m).length*U.size τ)).map f)++(List.range ((xs.drop (lo+m)).length*U.size τ)).map fun k=>cs.getD ((lo+m)*U.size τ+k) undef:=by
       have hym:(ys.take m).length=m:=by rw[List.length_take];omega
       have hxd:(xs.drop (lo+m)).length*U.size τ=xs.length*U.size τ-(lo+m)*U.size τ:=by rw[List.length_drop,Nat.sub_mul]
       rw[hym,hxd];have hcsl:=h2.1;refine List.ext_getElem? fun k=>?_
       rw[List.getElem?_take]
       by_cases hk:k<xs.length*U.size τ
       ·rw[if_pos hk];simp only[nc,hcells]
        by_cases mU:k<lo*U.size τ
        ·rw[List.getElem?_append_left (by simp only[List.length_append,List.length_take,hcells,hcl];omega),List.getElem?_append_left (by simp only[List.length_take,hcl];omega),List.getElem?_append_left (by simp only[List.length_append,List.length_take,hcells,hcsl];omega),List.getElem?_append_left (by simp only[List.length_take,hcsl];omega)];rw[List.getElem?_take,List.getElem?_take,if_pos mU,if_pos mU,<- htake,List.getElem?_take,if_pos hk]
        ·by_cases cW:k<lo*U.size τ+m*U.size τ
         ·rw[List.getElem?_append_left (by simp only[List.length_append,List.length_take,hcells,hcl];omega),List.getElem?_append_right (by simp only[List.length_take,hcl];omega),List.getElem?_append_left (by simp only[List.length_append,List.length_take,hcells,hcsl];omega),List.getElem?_append_right (by simp only[List.length_take,hcsl];omega)];simp only[List.length_take,hcl,hcsl];rw[show min (lo*U.size τ) (cap*U.size τ)=lo*U.size τ by omega,show min (lo*U.size τ) (xs.length*U.size τ)=lo*U.size τ by omega]
         ·rw[List.getElem?_append_right (by simp only[List.length_append,List.length_take,hcells,hcl];omega),List.getElem?_append_right (by simp only[List.length_append,List.length_take,hcells,hcsl];omega)];simp only[List.length_append,List.length_take,hcells,hcl,hcsl,List.getElem?_drop];rw[show min (lo*U.size τ) (cap*U.size τ)=lo*U.size τ by omega,show min (lo*U.size τ) (xs.length*U.size τ)=lo*U.size τ by omega];have e1:lo*U.size τ+m*U.size τ+(k-(lo*U.size τ+m*U.size τ))=k:=by omega
          have hk3:k-(lo*U.size τ+m*U.size τ)<xs.length*U.size τ-(lo+m)*U.size τ:=by rw[Nat.add_mul];omega
          rw[e1,List.getElem?_map,List.getElem?_range hk3,Option.map_some,Nat.add_mul,e1];have hkc:k<cs.length:=by rw[hcsl];exact hk
          rw[List.getD_eq_getElem?_getD,List.getElem?_eq_getElem hkc,Option.getD_some,<- List.getElem?_eq_getElem hkc,<- htake,List.getElem?_take,if_pos hk]
       ·rw[if_neg hk];refine(List.getElem?_eq_none ?_).symm;simp only[List.length_append,List.length_take,List.length_map,List.length_range,hcsl];rw[Nat.add_mul];omega
      have hlen:(xs.take lo++ys.take m++xs.drop (lo+m)).length=xs.length:=by
       simp only[List.length_append,List.length_take,List.length_drop];omega
      refine⟨_,_,bZ ρ id g (.slice (some ⟨b,0,none⟩) xs.length cap),hrun,?_,.int _ _⟩;show RR C.E n N w0 _ (s.obj id (.row τ g (xs.take lo++ys.take m++xs.drop (lo+m)))) a (w.setRow b nc.toArray);refine h.upd id g _ _ hsimp hold hb hsame hnew ⟨_,nc.take (xs.length*U.size τ),by simp[bZ],hp,?_,?_⟩
      ·rw[hlen];refine⟨by rw[List.length_take,hncl];omega,.inr ⟨b,cap,nc.toArray,rfl,hbase,setRow_heap w b cur _ _ (0,0) hgb,hnn,hcm,by simpa using hncl,rfl⟩⟩
      ·rw[hlist];have htk:∀i (hi:i<(xs.take lo).length) k (hk:k<(C.E.enc τ (xs.take lo)[i]).length),Rel C.E (w.setRow b nc.toArray) (bZ ρ id g (.slice (some ⟨b,0,none⟩) xs.length cap)) (aM N (bZ ρ id g (.slice (some ⟨b,0,none⟩) xs.length cap)) (w.setRow b nc.toArray)) (C.E.enc τ (xs.take lo)[i])[k] ((cs.take (lo*U.size τ)).getD (i*U.size τ+k) undef):=fun i hi k hk=>by
        have hil:i<lo:=by rw[List.length_take] at hi;omega
        have hix:i<xs.length:=by rw[List.length_take] at hi;omega
        have e:(xs.take lo)[i]=xs[i]:=List.getElem_take;have cW:k<(C.E.enc τ xs[i]).length:=by rw[C.E.enc_len] at hk ⊢;exact hk
        have hks:k<U.size τ:=by rw[C.E.enc_len] at cW;exact cW
        have hlt:i*U.size τ+k<lo*U.size τ:=by
         have:(i+1)*U.size τ<=lo*U.size τ:=Nat.mul_le_mul_right _ hil;rw[Nat.add_mul,Nat.one_mul] at this;omega
        have e2:(cs.take (lo*U.size τ)).getD (i*U.size τ+k) undef=cs.getD (i*U.size τ+k) undef:=by
         simp only[List.getD_eq_getElem?_getD,List.getElem?_take,if_pos hlt]
        simp only[e,e2];exact hup (h3 i hix k cW)
       have hyk:∀i (hi:i<(ys.take m).length) k (hk:k<(C.E.enc τ (ys.take m)[i]).length),Rel C.E (w.setRow b nc.toArray) (bZ ρ id g (.slice (some ⟨b,0,none⟩) xs.length cap)) (aM N (bZ ρ id g (.slice (some ⟨b,0,none⟩) xs.length cap)) (w.setRow b nc.toArray)) (C.E.enc τ (ys.take m)[i])[k] (f (i*U.size τ+k)):=fun i hi k hk=>by
        have hiy:i<ys.length:=by rw[List.length_take] at hi;omega
        have e:(ys.take m)[i]=ys[i]:=List.getElem_take;have cW:k<(C.E.enc τ ys[i]).length:=by rw[C.E.enc_len] at hk ⊢;exact hk
        simp only[e];exact hup (hl i hiy k cW)
       have hdk:∀i (hi:i<(xs.drop (lo+m)).length) k (hk:k<(C.E.enc τ (xs.drop (lo+m))[i]).length),Rel C.E (w.setRow b nc.toArray) (bZ ρ id g (.slice (some ⟨b,0,none⟩) xs.length cap)) (aM N (bZ ρ id g (.slice (some ⟨b,0,none⟩) xs.length cap)) (w.setRow b nc.toArray)) (C.E.enc τ (xs.drop (lo+m))[i])[k] (cs.getD ((lo+m)*U.size τ+(i*U.size τ+k)) undef):=fun i hi k hk=>by
        have hix:lo+m+i<xs.length:=by rw[List.length_drop] at hi;omega
        have e:(xs.drop (lo+m))[i]=xs[lo+m+i]:=List.getElem_drop;have cW:k<(C.E.enc τ xs[lo+m+i]).length:=by rw[C.E.enc_len] at hk ⊢;exact hk
        simp only[e];rw[show (lo+m)*U.size τ+(i*U.size τ+k)=(lo+m+i)*U.size τ+k by rw[Nat.add_mul (lo+m),Nat.add_assoc]];exact hup (h3 (lo+m+i) hix k cW)
       have hloL:(xs.take lo).length=lo:=by rw[List.length_take];omega
       have hymL:(ys.take m).length=m:=by rw[List.length_take];omega
       have r1:=aMF (E:=C.E) (cs:=cs.take (lo*U.size τ)) (by rw[List.length_take,hloL,h2.1];omega) htk hyk;have r2:=aMF (E:=C.E) (xs:=xs.take lo++ys.take m) (f:=fun k=>cs.getD ((lo+m)*U.size τ+k) undef) (by
        rw[List.length_append,List.length_take,List.length_append,List.length_map,List.length_range,hloL,hymL,h2.1,Nat.add_mul];omega) r1 hdk
       exact r2
   ·cases ho
  ·cases ho
 ·cases ho
def tW (C:Cfg U) (o:Oper) (ev:Operand->aB U) (look:Nat->Option (aV U)):Out U:=
 match o.op with
 | .slice t x lo hi none=>match lo,hi with
  |some lo,some hi=>vJ C look t (ev x) (some (ev lo)) (some (ev hi))
  |some lo,none=>vJ C look t (ev x) (some (ev lo)) none
  |none,some hi=>vJ C look t (ev x) none (some (ev hi))
  |none,none=>none
 | .indexAddr t x ix=>aFW C look t (ev x) (ev ix)
 | .store t p x=>aLn C look t (ev p) (ev x)
 | .buildSlice t len parts=>match o.dst with
  |some d=>aGb C look (C.off+d) t len (parts.toList.map fun p=>(p.1,ev p.2))
  |none=>none
 | .call c=>match c.callee,c.args.toList with
  | .builtin .append,[x,y]=>match o.dst with
   |some d=>match aMG C look (C.off+d) c.argTypes.toList (ev x) (ev y) with
    |some r=>some r
    |none=>aLp C look c.argTypes.toList (ev x) (ev y)
   |none=>none
  | .builtin .copy,[x,y]=>aML C look c.argTypes.toList (ev x) (ev y)
  |_,_=>none
 |_=>none
def nT (C:Cfg U) (o:Oper) (ev:Operand->aB U) (look:Nat->Option (aV U)):Out U:=
 match aop C o ev look with
 |some r=>some r
 |none=>tW C o ev look
theorem aWN {C:Cfg U} (hs:fR C w0) (h:RR C.E n N w0 ρ s a w) {look:Nat->Option (aV U)} (hlook:∀id ob,look id=some ob->s.objs id=some ob) {o:Oper}
  (hfresh:∀d,o.dst=some d->look (C.off+d)=none->s.objs (C.off+d)=none) (hd:∀d,o.dst=some d->d<n) {cs:List Prop} {r:aB U} {ob:Option (Nat×aV U)} (ho:nT C o s.eval look=some (cs,r,ob)) (hc:dE cs)
  {K:Act->World->Prop} {Q:Exit->Act->World->Prop} (hK:∀ρ' u w',RR C.E n N w0 ρ' ((s.fK ob).put o.dst r) (a.put o.dst u) w'->K (a.put o.dst u) w'):o.wp C.P a w K Q:=by
 unfold nT at ho;split at ho
 ·rename_i r0 kA;cases ho;exact aWM hs h hlook hfresh hd kA hc hK
 ·rename_i fX;clear fX;obtain⟨dst,op,ty,pos,after,guard⟩:=o;unfold tW at ho
  try simp only at ho
  try simp only at hK
  try simp only at hd
  try simp only at hfresh
  have same:∀{u:Value},(execOp a.eval ⟨dst,op,ty,pos,after,guard⟩).run C.P w=.ok (.value u) w->Rel C.E w ρ (aM N ρ w) r u->ob=none->Oper.wp C.P ⟨dst,op,ty,pos,after,guard⟩ a w K Q:=fun hr hu hob=>by
   subst hob;exact hJ hr (hK ρ _ w (h.put dst hd hu))
  cases op<;>(try simp only at ho)<;>(try (cases ho;done))
  case slice t x lo hi mx=>
   cases mx with
   |some _=>cases ho
   |none=>
    have fin:∀{lo' hi':Option Value} {q:Value},(Instr.sliceAt t (a.eval x) lo' hi' none).run C.P w=.ok q w->lo'=lo.map a.eval->hi'=hi.map a.eval->Rel C.E w ρ (aM N ρ w) r q->ob=none->Oper.wp C.P ⟨dst,.slice t x lo hi none,ty,pos,after,guard⟩ a w K Q:=fun {lo' hi' q} hrun e1 e2 hq hob=>by
     subst e1;subst e2;refine same ?_ hq hob;cases lo<;>cases hi<;>simp_all[execOp]
    cases lo with
    |some lo=>
     cases hi with
     |some hi=>
      obtain⟨rfl,q,hrun,hq⟩:=aI4 h hlook (h.eval x) (lo':=some (a.eval lo)) (hi':=some (a.eval hi)) (fun y e=>by cases e;exact⟨_,rfl,h.eval lo⟩) (fun e=>by cases e) (fun y e=>by cases e;exact⟨_,rfl,h.eval hi⟩) (fun e=>by cases e) ho hc;exact fin hrun rfl rfl hq rfl
     |none=>
      obtain⟨rfl,q,hrun,hq⟩:=aI4 h hlook (h.eval x) (lo':=some (a.eval lo)) (hi':=none) (fun y e=>by cases e;exact⟨_,rfl,h.eval lo⟩) (fun e=>by cases e) (fun y e=>by cases e) (fun _=>rfl) ho hc;exact fin hrun rfl rfl hq rfl
    |none=>
     cases hi with
     |some hi=>
      obtain⟨rfl,q,hrun,hq⟩:=aI4 h hlook (h.eval x) (lo':=none) (hi':=some (a.eval hi)) (fun y e=>by cases e) (fun _=>rfl) (fun y e=>by cases e;exact⟨_,rfl,h.eval hi⟩) (fun e=>by cases e) ho hc;exact fin hrun rfl rfl hq rfl
     |none=>cases ho
  case indexAddr t x ix=>
   obtain⟨rfl,q,hrun,hq⟩:=bFw h hlook (h.eval x) (h.eval ix) ho hc;refine same ?_ hq rfl;simp[execOp,hrun]
  case store t p x=>
   obtain⟨w',ρ',hrun,hR,rfl⟩:=bIp h hlook (h.eval p) (h.eval x) ho hc;refine aHz (w':=w') ?_ (hK ρ' _ w' (hR.put dst hd (.raw _)));simp[execOp,hrun]
  case buildSlice t len parts=>
   split at ho
   ·rename_i d;obtain⟨q,w',ρ',hrun,hR,hq⟩:=bK5 h hlook (hfresh d rfl) (parts':=parts.map fun (p:Nat×Operand)=>(p.1,a.eval p.2)) (by simp) (sY h parts) ho;refine hJ (u:=q) (w':=w') ?_ (hK ρ' _ w' (hR.put (some d) hd hq));show ((do pure (Next.value (<- Instr.buildSlice t len (parts.map fun (p:Nat×Operand)=>(p.1,a.eval p.2)))):Sem Next)).run C.P w=_;simp only[Sem.run_bind,hrun,Result.andThen_ok,Sem.run_pure]
   ·cases ho
  case call c=>
   obtain⟨callee,args,argTypes⟩:=c;simp only at ho;split at ho
   ·rename_i x y hargs;have hargs':args=#[x,y]:=by rw[<- Array.toArray_toList (xs:=args),hargs]
    subst hargs';split at ho
    ·rename_i d;split at ho
     ·rename_i r1 cH;cases ho;obtain⟨q,w',ρ',hrun,hR,hq⟩:=bLF (ty:=ty) h hlook (hfresh d rfl) (h.eval x) (h.eval y) cH hc;refine hJ (u:=q) (w':=w') ?_ (hK ρ' _ w' (hR.put (some d) hd hq));simp[execOp,resolve,invoke,builtin,hrun]
     ·obtain⟨q,w',ρ',hrun,hR,hq⟩:=bIr (ty:=ty) h hlook (h.eval x) (h.eval y) ho hc;refine hJ (u:=q) (w':=w') ?_ (hK ρ' _ w' (hR.put (some d) hd hq));simp[execOp,resolve,invoke,builtin,hrun]
    ·cases ho
   ·rename_i x y hargs;have hargs':args=#[x,y]:=by rw[<- Array.toArray_toList (xs:=args),hargs]
    subst hargs';obtain⟨q,w',ρ',hrun,hR,hq⟩:=bLY (ty:=ty) h hlook (h.eval x) (h.eval y) ho;refine hJ (u:=q) (w':=w') ?_ (hK ρ' _ w' (hR.put dst hd hq));simp[execOp,resolve,invoke,builtin,hrun]
   ·cases ho
end
end Go.Vm
namespace Go.Vm
open Go.RowKit
set_option linter.unusedVariables false
section
variable {U:dH} {n:Nat} {N:Nat->Prop} {w0:Fr} {w w':World} {ρ ρ':Own} {s s':ASt U} {a:Act}
def aLq (C:Cfg U) (s:ASt U) (d dt:Nat) (t:TypeId) (len:Nat):List (Nat×aB U)->Option (List Prop×ASt U)
 |[(0,.osl m gm)]=>match iD C t,s.objs m,s.objs d with
  |some τ,some (.row t1 gm' ys),none=>match U.unsl τ t1 ys,zeroCells (U:=U) C.P (U.ety τ) with
   |some y,some z=>cond (Nat.beq len 1&&Nat.beq gm gm'&&Nat.beq (U.size τ) 1&&Nat.beq z.length (U.size τ)) (some ([],((s.obj m (.row t1 (gm+1) [])).obj d (.deep τ 0 0 [y])).set dt (.osl d 0))) none
   |_,_=>none
  |_,_,_=>none
 |_=>none
def aLr (C:Cfg U) (s:ASt U) (d dt:Nat) (ts:List TypeId) (x y:aB U):Option (List Prop×ASt U):=
 match ts with
 |[t,t']=>cond (Nat.beq t t') (match iD C t,y with
  |some τ,.osl m gy=>match C.P.info? (U.ety τ),s.objs m with
   |some i,some (.deep τy gy' gmy ys)=>match i.zero,kD τ τy ys with
    |some z,some zs=>cond (Nat.beq z.cells.size (U.size τ)&&Nat.ble 1 i.bytes&&Nat.beq gy gy') (match x with
     | .nils=>match s.objs d with
      |none=>some ([zs.length*i.bytes<=140737488355328],((s.obj m (.gone (gy+1) (gmy+1) zs.length)).obj d (.deep τ 0 0 zs)).set dt (.osl d 0))
      |some _=>none
     | .osl id g=>match s.objs id with
      |some (.deep τx g' gm xs)=>match kD τ τx xs with
       |some us=>cond (Nat.beq g g'&&!Nat.beq id m) (some ([(us.length+zs.length)*i.bytes<=140737488355328],((s.obj m (.gone (gy+1) (gmy+1) zs.length)).obj id (.deep τ (g+1) gm (us++zs))).set dt (.osl id (g+1)))) none
       |none=>none
      |_=>none
     |_=>none) none
    |_,_=>none
   |_,_=>none
  |_,_=>none) none
 |_=>none
def aDp (C:Cfg U) (s:ASt U) (o:Oper):Option (List Prop×ASt U):=
 cond (!C.pur) (match o.op,o.dst with
  | .buildSlice t len parts,some d=>cond C.deep (match aLq C s (C.off+d) d t len (parts.toList.map fun p=>(p.1,s.eval p.2)) with
   |some r=>some r
   |none=>aLo C s (C.off+d) d t len (parts.toList.map fun p=>(p.1,s.eval p.2))) none
  | .call c,some d=>match c.callee,c.args.toList with
   | .builtin .append,[x,y]=>aLr C s (C.off+d) d c.argTypes.toList (s.eval x) (s.eval y)
   |_,_=>none
  | .slice t x none (some hi) none,some d=>cond C.deep (aJU C s d t (s.eval x) (s.eval hi)) none
  |_,_=>none) none
theorem aJ0 (s:ASt U) (m id d:Nat) (hmi:m≠id) (x y:aV U) (v:aB U):(∀q,q≠m->q≠id->(((s.obj m x).obj id y).set d v).objs q=s.objs q)/\(((s.obj m x).obj id y).set d v).objs m=some x/\(((s.obj m x).obj id y).set d v).objs id=some y:=by
 refine⟨fun q h1 h2=>?_,?_,?_⟩
 ·show cond (Nat.beq q id) _ (cond (Nat.beq q m) _ _)=_;rw[fG h1,fG h2];rfl
 ·show cond (Nat.beq m id) _ (cond (Nat.beq m m) _ _)=_;rw[fG hmi,Nat.beq_refl];rfl
 ·show cond (Nat.beq id id) _ _=_;rw[Nat.beq_refl];rfl
theorem bIt {C:Cfg U} (h:RR C.E n N w0 ρ s a w) {d dt:Nat} (hd:dt<n) {argTypes:Array TypeId} {ty:TypeId} {x y:aB U} {u v:Value} (hx:Rel C.E w ρ (aM N ρ w) x u) (hy:Rel C.E w ρ (aM N ρ w) y v)
  {cs:List Prop} (ho:aLr C s d dt argTypes.toList x y=some (cs,s')) (hc:dE cs):
  ∃v' w' ρ',(Builtin.append_ argTypes ty #[u,v]).run C.P w=.ok v' w'/\RR C.E n N w0 ρ' s' (a.put (some dt) v') w':=by
 unfold aLr at ho;split at ho
 ·rename_i t t' hat;have hbo:=bI ho;clear ho;obtain⟨hb,ho⟩:=hbo;obtain rfl:=Nat.eq_of_beq_eq_true hb;have hargs:argTypes=#[t,t]:=by rw[<- Array.toArray_toList (xs:=argTypes),hat]
  subst hargs;split at ho
  ·rename_i τ m gy hτ;split at ho
   ·rename_i i τy gy' gmy gQ hi hm;split at ho
    ·rename_i z zs hz hcz;have hbo:=bI ho;clear ho;obtain⟨cA,ho⟩:=hbo;simp only[Bool.and_eq_true] at cA;obtain⟨⟨hzs,hby⟩,hgy⟩:=cA;have hzs:=Nat.eq_of_beq_eq_true hzs;have hby:=Nat.le_of_ble_eq_true hby;obtain rfl:=Nat.eq_of_beq_eq_true hgy;obtain⟨rfl,rfl⟩:=kS hcz;obtain⟨hu,i',hi',his⟩:=mH hτ;rw[hi] at hi';obtain rfl:=Option.some.inj hi';obtain⟨uy,csy,y1,y2,y3,y4,y5,y6⟩:=h.objs _ _ hm;have hvy:uy=v:=by
      cases hy with
      |osl _ _ u' hr' hp'=>
       rw[y1] at hr';simp only[Option.some.injEq,Prod.mk.injEq,true_and] at hr';exact hr'
      |oslOld _ _ g' u' v hr' hg=>
       rw[y1] at hr';simp only[Option.some.injEq,Prod.mk.injEq] at hr';omega
     subst hvy
     -- the cells of y
     have hcy:aDN w gQ.length (U.size τy) (fun j=>csy.getD j undef) uy:=by
      rcases y3.2 with ⟨h0,fX⟩|⟨gb,cap,cur,heq,hbase,hgb,hn,hcm,hcs,htake⟩
      ·exact .inl ⟨⟨_,h0⟩,fX⟩
      ·refine .inr ⟨gb,0,cap,heq,hn,fun j hj=>?_⟩;have h6:csy[j]?=cur[j]?:=by
        rw[<- htake,List.getElem?_take,if_pos hj];simp
       have hlt:j<csy.length:=by rw[y3.1];exact hj
       refine⟨?_,?_⟩
       ·rw[Nat.zero_add,cell_of_row w gb j cur _ (0,0) hgb,<- h6];simp[hlt]
       ·rw[y4,Nat.mul_one] at hj;obtain⟨t1,ws,v1,ds,r1,r2,r3,_⟩:=y6 j hj;show (csy.getD j undef).oneCell'=true;rw[r3];exact(h.own r2).1
     -- both sides in one
     have main:∀(id g' gm:Nat) (xs:List (U.T τy)) (gD:List Value),m≠id->(∀ob,s.objs id=some ob->ob.simple=false)->w.ownsRow w0.heap.size (U.ety τy) (U.size τy) u xs.length gD->(∀a,u≠ .pointer a)->
       ((∃g,ρ (.ob id)=some (g,u)/\g<g')\/(ρ (.ob id)=none/\u=.slice none 0 0))->(∀j,xs.length<=j->ρ (.mem id j)=none)->
       (∀j (hj:j<xs.length),∃t1 ys v ds,C.E.enc τy xs[j]=[.sl t1 ys]/\ρ (.mem id j)=some (gm,v)/\gD.getD j undef=v/\(∀a,v≠ .pointer a)/\w.ownsRow w0.heap.size (U.ety t1) (U.size t1) v ys.length ds/\
        ∀i (h:i<ys.length) k (hk:k<(C.E.enc t1 ys[i]).length),Rel C.E w ρ (aM N ρ w) (C.E.enc t1 ys[i])[k] (ds.getD (i*U.size t1+k) undef))->
       (xs.length+gQ.length)*i.bytes<=140737488355328->
       ∃v' w' ρ',(Builtin.append_ #[t,t] ty #[u,uy]).run C.P w=.ok v' w'/\RR C.E n N w0 ρ' (((s.obj m (.gone (gy+1) (gmy+1) gQ.length)).obj id (.deep τy g' gm (xs++gQ))).set dt (.osl id g')) (a.put (some dt) v') w':=by
      intro id g' gm xs gD hmi hids hown hpu hob hno hmem hbytes;obtain⟨v',w',hrun,hown',hgrow,hpv,hblk⟩:=aHl (P:=C.P) (ty:=ty) (base:=w0.heap.size) hu hi hz his hzs (C.E.pos τy) hby hown hpu hcy hbytes h.below.size;have hxm:∀j g1 u1,ρ (.mem id j)=some (g1,u1)->j<xs.length:=fun j g1 u1 hr=>by
       refine Classical.byContradiction fun hn=>?_
       rw[hno j (by omega)] at hr;cases hr
      have hym:∀j g1 u1,ρ (.mem m j)=some (g1,u1)->j<gQ.length/\g1=gmy/\∀a,u1≠ .pointer a:=fun j g1 u1 hr=>by
       have hj:j<gQ.length:=by
        refine Classical.byContradiction fun hn=>?_
        rw[y5 j (by omega)] at hr;cases hr
       obtain⟨t1,ws,v1,ds,r1,r2,r3,r4,_⟩:=y6 j hj;rw[hr] at r2;cases r2;exact⟨hj,rfl,r4⟩
      let fm:Nat->Option (Nat×Value):=fun j=>if j<xs.length then ρ (.mem id j) else (ρ (.mem m (j-xs.length))).map fun p=>(gm,p.2)
      let ρ2:Own:=gT (gT ρ m (some (gy+1,.slice none 0 0)) (fun j=>if j<gQ.length then some (gmy+1,.slice none 0 0) else none)) id (some (g',v')) fm
      have eid:ρ2 (.ob id)=some (g',v'):=pN;have emem:∀j,ρ2 (.mem id j)=fm j:=fun j=>pO
      have em:ρ2 (.ob m)=some (gy+1,.slice none 0 0):=by
       show gT _ id _ _ (.ob m)=_;rw[kL (show (Name.ob m).id≠id from hmi)];exact pN
      have emm:∀j,ρ2 (.mem m j)=if j<gQ.length then some (gmy+1,.slice none 0 0) else none:=fun j=>by
       show gT _ id _ _ (.mem m j)=_;rw[kL (show (Name.mem m j).id≠id from hmi)];exact pO
      have eout:∀nm:Name,nm.id≠m->nm.id≠id->ρ2 nm=ρ nm:=fun nm h1 h2=>by
       show gT _ id _ _ nm=_;rw[kL h2,kL h1]
      let src:Name->Name:=fun nm=>match nm with
       | .ob q=>.ob q
       | .mem q j=>if q=id/\¬j<xs.length then .mem m (j-xs.length) else .mem q j
      have c:Chg N (fun q=>q=m\/q=id) w0.heap.size ρ ρ2 w w':=by
       refine aIU h hmi eout (fun nm g u1 hd hr=>?_) ((Below.refl _ _).grown hgrow h.below.size (fun k hk=>?_)) (fun b hb hne=>hgrow.block b hb (fun e=>?_)) src (fun nm g u1 b hd hr hb=>?_) (fun nm nm' g1 g2 u1 u2 b1 b2 hd hd' hr hr' bV cA he=>?_)
       ·cases nm with
        |ob q=>
         rcases hd with hq|hq
         ·obtain rfl:q=m:=hq;rw[y1] at hr;cases hr;exact .inr ⟨y2,_,_,em,by omega⟩
         ·obtain rfl:q=id:=hq;rcases hob with ⟨g0,h0,hg⟩|⟨h0,_⟩
          ·rw[hr] at h0;cases h0;exact .inr ⟨hpu,_,_,eid,hg⟩
          ·rw[hr] at h0;cases h0
        |mem q j=>
         rcases hd with hq|hq
         ·obtain rfl:q=m:=hq;obtain⟨hj,hg1,jL⟩:=hym j g u1 hr;exact .inr ⟨jL,gmy+1,.slice none 0 0,by rw[emm,if_pos hj],by omega⟩
         ·obtain rfl:q=id:=hq;refine .inl ?_;rw[emem];show (if _ then _ else _)=_;rw[if_pos (hxm j g u1 hr)];exact hr
       ·rcases hob with ⟨g0,h0,_⟩|⟨_,h0⟩
        ·exact((h.own h0).2 k (by rw[<- iG hpu];exact hk)).1
        ·rw[h0] at hk;cases hk
       ·rcases hob with ⟨g0,h0,_⟩|⟨_,h0⟩
        ·exact hne (.ob id) g0 u (.inr rfl) h0 (by rw[<- iG hpu];exact e.symm)
        ·rw[h0] at e;cases e
       ·cases nm with
        |ob q=>
         rcases hd with hq|hq
         ·obtain rfl:q=m:=hq;rw[em] at hr;cases hr;cases hb
         ·obtain rfl:q=id:=hq;rw[eid] at hr;cases hr;refine⟨.inr rfl,?_⟩;rcases hblk b hb with hb'|hb'
          ·rcases hob with ⟨g0,h0,_⟩|⟨_,h0⟩
           ·exact .inl ⟨g0,u,h0,hb'⟩
           ·rw[h0] at hb';cases hb'
          ·exact .inr ⟨rfl,hb'⟩
        |mem q j=>
         rcases hd with hq|hq
         ·obtain rfl:q=m:=hq;rw[emm] at hr;split at hr
          ·cases hr;cases hb
          ·cases hr
         ·obtain rfl:q=id:=hq;rw[emem] at hr
          by_cases hj:j<xs.length
          ·have e1:fm j=ρ (.mem q j):=if_pos hj;rw[e1] at hr;have e2:src (.mem q j)=.mem q j:=if_neg (fun e=>e.2 hj);rw[e2];exact⟨.inr rfl,.inl ⟨g,u1,hr,hb⟩⟩
          ·have e1:fm j=(ρ (.mem m (j-xs.length))).map fun p=>(gm,p.2):=if_neg hj
           rw[e1] at hr;simp only[Option.map_eq_some_iff] at hr;obtain⟨p,jL,e⟩:=hr;cases e;have e2:src (.mem q j)=.mem m (j-xs.length):=if_pos ⟨rfl,hj⟩;rw[e2];exact⟨.inl rfl,.inl ⟨p.1,p.2,jL,hb⟩⟩
       ·have noM:∀nm:Name,∀g u b,nm.id=m->ρ2 nm=some (g,u)->blk u=some b->False:=fun nm g u b hq hr hb=>by
         cases nm with
         |ob q=>
          obtain rfl:q=m:=hq;rw[em] at hr;cases hr;cases hb
         |mem q j=>
          obtain rfl:q=m:=hq;rw[emm] at hr;split at hr
          ·cases hr;cases hb
          ·cases hr
        have q1:nm.id=id:=by
         rcases hd with hq|hq
         ·exact(noM _ _ _ _ hq hr bV).elim
         ·exact hq
        have q2:nm'.id=id:=by
         rcases hd' with hq|hq
         ·exact(noM _ _ _ _ hq hr' cA).elim
         ·exact hq
        cases nm with
        |ob p=>
         cases nm' with
         |ob p'=>exact he
         |mem p' j'=>
          have he':Name.ob p=(if p'=id/\¬j'<xs.length then .mem m (j'-xs.length) else .mem p' j'):=he;split at he'<;>cases he'
        |mem p j=>
         obtain rfl:p=id:=q1;cases nm' with
         |ob p'=>
          have he':(if p=p/\¬j<xs.length then Name.mem m (j-xs.length) else .mem p j)=.ob p':=he;split at he'<;>cases he'
         |mem p' j'=>
          obtain rfl:p'=p:=q2;have he':(if p'=p'/\¬j<xs.length then Name.mem m (j-xs.length) else .mem p' j)=(if p'=p'/\¬j'<xs.length then Name.mem m (j'-xs.length) else .mem p' j'):=he
          by_cases a1:j<xs.length
          ·rw[if_neg (fun e=>e.2 a1)] at he'
           by_cases a2:j'<xs.length
           ·rw[if_neg (fun e=>e.2 a2)] at he';exact he'
           ·rw[if_pos ⟨rfl,a2⟩] at he';exact(hmi (Name.mem.inj he').1.symm).elim
          ·rw[if_pos ⟨rfl,a1⟩] at he'
           by_cases a2:j'<xs.length
           ·rw[if_neg (fun e=>e.2 a2)] at he';exact(hmi (Name.mem.inj he').1).elim
           ·rw[if_pos ⟨rfl,a2⟩] at he';have:=(Name.mem.inj he').2;rw[show j=j' by omega]
      obtain⟨o1,o2,o3⟩:=aJ0 s m id dt hmi (.gone (gy+1) (gmy+1) gQ.length) (.deep τy g' gm (xs++gQ)) (.osl id g');have keepR:∀{nm:Name} {g1:Nat} {u1:Value} {e:TypeId} {p k:Nat} {ds:List Value},nm≠ .ob id->ρ nm=some (g1,u1)->w.ownsRow w0.heap.size e p u1 k ds->w'.ownsRow w0.heap.size e p u1 k ds:=fun hne cH hw=>by
       refine⟨hw.1,?_⟩;rcases hw.2 with hn'|⟨gb,cap,cur,rfl,hb,hg,rest⟩
       ·exact .inl hn'
       ·refine .inr ⟨gb,cap,cur,rfl,hb,?_,rest⟩;rw[hgrow.block gb (Array.getElem?_eq_some_iff.1 hg).1 (fun e=>?_)]
        ·exact hg
        ·rcases hob with ⟨g0,h0,_⟩|⟨_,h0⟩
         ·exact h.sep _ _ _ _ _ _ gb cH h0 hne rfl (by rw[<- iG hpu];exact e.symm)
         ·rw[h0] at e;cases e
      have hnew:eG C.E w' ρ2 (aM N ρ2 w') w0.heap.size id (.deep τy g' gm (xs++gQ)):=by
       refine⟨v',gD++(List.range (gQ.length*U.size τy)).map fun j=>csy.getD j undef,eid,hpv,by rw[List.length_append];exact hown',y4,fun j hj=>?_,fun j hj=>?_⟩
       ·rw[List.length_append] at hj;rw[emem];show (if _ then _ else _)=_;rw[if_neg (by omega),y5 _ (by omega)];rfl
       ·rw[List.length_append] at hj;have hcl:gD.length=xs.length:=by rw[hown.1,y4,Nat.mul_one]
        by_cases hjx:j<xs.length
        ·obtain⟨t1,ws,v1,ds,r1,r2,r3,r4,r5,r6⟩:=hmem j hjx;refine⟨t1,ws,v1,ds,by rw[List.getElem_append_left hjx];exact r1,?_,?_,r4,keepR (fun e=>by cases e) r2 r5,fun i hi k hk=>c.rel (r6 i hi k hk)⟩
         ·rw[emem];show (if _ then _ else _)=_;rw[if_pos hjx];exact r2
         ·rw[<- r3];simp[List.getElem?_append,show j<gD.length by omega]
        ·obtain⟨t1,ws,v1,ds,r1,r2,r3,r4,r5,r6⟩:=y6 (j-xs.length) (by omega);refine⟨t1,ws,v1,ds,by rw[List.getElem_append_right (by omega)];exact r1,?_,?_,r4,keepR (fun e=>by cases e) r2 r5,fun i hi k hk=>c.rel (r6 i hi k hk)⟩
         ·rw[emem];show (if _ then _ else _)=_;rw[if_neg hjx,r2];rfl
         ·rw[<- r3];have h6:j-gD.length<gQ.length*U.size τy:=by rw[y4,Nat.mul_one];omega
          rw[List.getD_eq_getElem?_getD,List.getElem?_append_right (by omega),<- List.getD_eq_getElem?_getD,<- hcl];generalize j-gD.length=q at h6;simp only[List.getD_eq_getElem?_getD,List.getElem?_map,List.getElem?_range h6,Option.map_some,Option.getD_some]
      have hR:=h.change (s':=(s.obj m (.gone (gy+1) (gmy+1) gQ.length)).obj id (.deep τy g' gm (xs++gQ))) c rfl (fun q hq=>o1 q (fun e=>hq (.inl e)) (fun e=>hq (.inr e))) (fun nm g1 u1 hd hr=>?_) (fun q ob hq ho=>?_) (fun q ob hq _=>by
       rcases hq with e|e
       ·exact⟨_,(congrArg _ e).trans o2⟩
       ·exact⟨_,(congrArg _ e).trans o3⟩)
      ·exact⟨v',w',ρ2,hrun,hR.put (some dt) (fun _ e=>by cases e;exact hd) (.osl id g' v' eid hpv)⟩
      ·rcases hd with hq|hq
       ·exact⟨_,by rw[hq];exact o2,fun e=>by cases e⟩
       ·exact⟨_,by rw[hq];exact o3,fun e=>by cases e⟩
      ·rcases hq with rfl|rfl
       ·have ho':=ho;rw[show ((s.obj q (.gone (gy+1) (gmy+1) gQ.length)).obj id (.deep τy g' gm (xs++gQ))).objs q=some (.gone (gy+1) (gmy+1) gQ.length) from o2] at ho';cases ho';exact⟨em,fun j hj=>by rw[emm,if_pos hj],fun j hj=>by rw[emm,if_neg (by omega)]⟩
       ·have ho':=ho;rw[show ((s.obj m (.gone (gy+1) (gmy+1) gQ.length)).obj q (.deep τy g' gm (xs++gQ))).objs q=some (.deep τy g' gm (xs++gQ)) from o3] at ho';cases ho';exact hnew
     split at ho
     ·split at ho
      ·rename_i hfree;cases ho;cases hx;have hnone:=h.oB hfree;have hmd:m≠d:=fun e=>by
        subst e;rw[hm] at hfree;cases hfree
       have hbytes:gQ.length*i.bytes<=140737488355328:=hc;have:=main d 0 0 [] [] hmd (fun ob ho=>by rw[hfree] at ho;cases ho) (World.ownsRow_nil _ _ _ _) (fun a e=>by cases e) (.inr ⟨by
        cases hq:ρ (.ob d) with
        |none=>rfl
        |some p=>exact(hnone p.1 p.2 hq).elim,rfl⟩) (fun j _=>h.pV (fun ob ho=>by rw[hfree] at ho;cases ho) j) (fun j hj=>absurd hj (by simp)) (by simpa using hbytes)
       exact this
      ·cases ho
     ·rename_i id g;split at ho
      ·rename_i τx g' gm xs0 hid;split at ho
       ·rename_i us hus;obtain⟨gZ,ho⟩:=bI ho;cases ho;simp only[Bool.and_eq_true,Bool.not_eq_true'] at gZ;obtain rfl:=Nat.eq_of_beq_eq_true gZ.1;have hne:m≠id:=fun e=>by
         subst e;have kP:=gZ.2;rw[Nat.beq_refl] at kP;cases kP
        obtain⟨rfl,rfl⟩:=kS hus;obtain⟨ux,csx,x1,x2,x3,x4,x5,x6⟩:=h.objs _ _ hid;have hvx:ux=u:=by
         cases hx with
         |osl _ _ u' hr' hp'=>
          rw[x1] at hr';simp only[Option.some.injEq,Prod.mk.injEq,true_and] at hr';exact hr'
         |oslOld _ _ g' u' v hr' hg=>
          rw[x1] at hr';simp only[Option.some.injEq,Prod.mk.injEq] at hr';omega
        subst hvx;exact main id (g+1) gm xs0 csx hne (fun ob ho=>by rw[hid] at ho;cases ho;rfl) x3 x2 (.inl ⟨g,x1,by omega⟩) x5 x6 hc
       ·cases ho
      ·cases ho
     ·cases ho
    ·cases ho
   ·cases ho
  ·cases ho
 ·cases ho
theorem bIs {C:Cfg U} (h:RR C.E n N w0 ρ s a w) {d dt:Nat} (hd:dt<n) {t:TypeId} {len:Nat}
  {parts:List (Nat×aB U)} {parts':Array (Nat×Value)} (hpl:parts.length=parts'.size)
  (hp:∀k (h:k<parts.length) (h':k<parts'.toList.length),parts[k].1=parts'.toList[k].1/\Rel C.E w ρ (aM N ρ w) parts[k].2 parts'.toList[k].2)
  {cs:List Prop} (ho:aLq C s d dt t len parts=some (cs,s')):
  ∃v' w' ρ',(Instr.buildSlice t len parts').run C.P w=.ok v' w'/\RR C.E n N w0 ρ' s' (a.put (some dt) v') w':=by
 unfold aLq at ho;split at ho
 ·rename_i m gm;split at ho
  ·rename_i τ t1 gm' ys hτ hm hfree;split at ho
   ·rename_i y z hy hz;obtain⟨hb,ho⟩:=bI ho;cases ho;simp only[Bool.and_eq_true] at hb;obtain⟨⟨⟨bV,cA⟩,gZ⟩,kP⟩:=hb;obtain rfl:=Nat.eq_of_beq_eq_true bV;obtain rfl:=Nat.eq_of_beq_eq_true cA;have hsz:=Nat.eq_of_beq_eq_true gZ;have hzl:=Nat.eq_of_beq_eq_true kP;obtain⟨hu,i,hi,his⟩:=mH hτ;obtain⟨zv,hzr,hzsz,hzrel⟩:=pB (E:=C.E) (w:=w) (ρ:=ρ) hz;have hps:parts'.toList.length=1:=by simpa using hpl.symm
    obtain⟨q1,q2⟩:=hp 0 (by simp) (by omega);simp only[List.getElem_cons_zero] at q1 q2;obtain⟨⟨i0,v⟩,hpe⟩:∃x,parts'.toList=[x]:=List.length_eq_one_iff.1 hps;simp only[hpe,List.getElem_cons_zero] at q1 q2;subst q1;have hpe':parts'=#[(0,v)]:=by rw[<- Array.toArray_toList (xs:=parts'),hpe]
    subst hpe';obtain⟨um,csm,m1,mp,m2,m4⟩:=h.objs _ _ hm;have hum:um=v:=by
     cases q2 with
     |osl _ _ u' hr' hp'=>
      rw[m1] at hr';simpa using hr'
     |oslOld _ _ g' u' v hr' hg=>
      rw[m1] at hr';simp only[Option.some.injEq,Prod.mk.injEq] at hr';omega
    subst hum;have hone:um.oneCell'=true:=(h.own m1).1;have hcu:um.cells=#[um]:=cells_one hone;have hrow:((Array.range (1*1)).map (fun k=>zv.cells[k % zv.cells.size]!)).size=1:=by simp
    have hfill:Instr.fill (fun i=>some (i*1,1)) ((Array.range (1*1)).map (fun k=>zv.cells[k % zv.cells.size]!)) [(0,um)]=some #[um]:=by
     generalize (Array.range (1*1)).map (fun k=>zv.cells[k % zv.cells.size]!)=base at hrow;obtain⟨b0,rfl⟩:∃b0,base=#[b0]:=by
      obtain⟨l⟩:=base;simp only[List.size_toArray] at hrow;obtain⟨x,rfl⟩:=List.length_eq_one_iff.1 hrow;exact⟨x,rfl⟩
     simp[Instr.fill,hcu]
    have hmd:m≠d:=fun e=>by
     subst e;rw[hm] at hfree;cases hfree
    have hnone:=h.oB hfree;have hmemd:=h.pV (id:=d) (fun ob ho=>by rw[hfree] at ho;cases ho);have hmemm:=h.pV (id:=m) (fun ob ho=>by rw[hm] at ho;cases ho;rfl)
    let w2:=w.alloc (.cells #[um] (U.ety τ))
    let vn:Value:=.slice (some ⟨w.heap.size,0,none⟩) 1 1
    have hvn:∀a,vn≠ .pointer a:=fun a e=>by
     have e':(Value.slice (some ⟨w.heap.size,0,none⟩) 1 1)=.pointer a:=e;cases e'
    let ρ2:Own:=gT (gT ρ m (some (gm+1,.slice none 0 0)) (fun _=>none)) d (some (0,vn)) (fun j=>if j=0 then some (0,um) else none)
    have ed:ρ2 (.ob d)=some (0,vn):=pN;have edm:∀j,ρ2 (.mem d j)=if j=0 then some (0,um) else none:=fun j=>pO
    have em:ρ2 (.ob m)=some (gm+1,.slice none 0 0):=by
     show gT _ d _ _ (.ob m)=_;rw[kL (show (Name.ob m).id≠d from hmd)];exact pN
    have emm:∀j,ρ2 (.mem m j)=none:=fun j=>by
     show gT _ d _ _ (.mem m j)=_;rw[kL (show (Name.mem m j).id≠d from hmd)];exact pO
    have eout:∀nm:Name,nm.id≠m->nm.id≠d->ρ2 nm=ρ nm:=fun nm h1 h2=>by
     show gT _ d _ _ nm=_;rw[kL h2,kL h1]
    have hdn:∀(nm:Name) g u,nm.id=d->ρ nm=some (g,u)->False:=fun nm g u hq hr=>by
     cases nm with
     |ob q=>
      obtain rfl:q=d:=hq;exact hnone _ _ hr
     |mem q j=>
      obtain rfl:q=d:=hq;rw[hmemd j] at hr;cases hr
    have hbel:Below w.heap.size w w2:=(Below.refl _ _).alloc (Nat.le_refl _) _
    -- what a name has now
    have hcase:∀(nm:Name) g u b,(nm.id=m\/nm.id=d)->ρ2 nm=some (g,u)->blk u=some b->(nm=.ob d/\b=w.heap.size)\/(nm=.mem d 0/\u=um):=fun nm g u b hq hr hb=>by
     cases nm with
     |ob q=>
      rcases hq with hq|hq
      ·obtain rfl:q=m:=hq;rw[em] at hr;cases hr;cases hb
      ·obtain rfl:q=d:=hq;rw[ed] at hr;cases hr;simp only[vn,blk,Option.some.injEq] at hb;exact .inl ⟨rfl,hb.symm⟩
     |mem q j=>
      rcases hq with hq|hq
      ·obtain rfl:q=m:=hq;rw[emm] at hr;cases hr
      ·obtain rfl:q=d:=hq;rw[edm] at hr;split at hr
       ·rename_i hj;subst hj;cases hr;exact .inr ⟨rfl,rfl⟩
       ·cases hr
    have c:Chg N (fun q=>q=m\/q=d) w0.heap.size ρ ρ2 w w2:=by
     refine aIU h hmd eout (fun nm g u hq hr=>?_) (hbel.mono h.below.size) (fun b hb _=>hbel.block b hb) (fun nm=>match nm with | .ob q=>.ob q | .mem _ _=>.ob m) (fun nm g u b hq hr hb=>?_) (fun nm nm' g g1 u u1 b b1 hq hq' hr hr' hb bV he=>?_)
     ·rcases hq with hq|hq
      ·cases nm with
       |ob q=>
        obtain rfl:q=m:=hq;rw[m1] at hr;cases hr;exact .inr ⟨mp,_,_,em,by omega⟩
       |mem q j=>
        obtain rfl:q=m:=hq;rw[hmemm j] at hr;cases hr
      ·exact(hdn _ _ _ hq hr).elim
     ·rcases hcase nm g u b hq hr hb with ⟨rfl,rfl⟩|⟨rfl,rfl⟩
      ·exact⟨.inr rfl,.inr ⟨rfl,Nat.le_refl _⟩⟩
      ·exact⟨.inl rfl,.inl ⟨_,_,m1,hb⟩⟩
     ·rcases hcase nm g u b hq hr hb with ⟨rfl,rfl⟩|⟨rfl,rfl⟩
      ·rcases hcase nm' g1 u1 b1 hq' hr' bV with ⟨rfl,rfl⟩|⟨rfl,rfl⟩
       ·rfl
       ·exact(hmd (Name.ob.inj he).symm).elim
      ·rcases hcase nm' g1 u1 b1 hq' hr' bV with ⟨rfl,rfl⟩|⟨rfl,rfl⟩
       ·exact(hmd (Name.ob.inj he)).elim
       ·rfl
    obtain⟨o1,o2,o3⟩:=aJ0 s m d dt hmd (.row t1 (gm+1) []) (.deep τ 0 0 [y]) (.osl d 0);have hR:=h.change (s':=(s.obj m (.row t1 (gm+1) [])).obj d (.deep τ 0 0 [y])) c rfl (fun q hq=>o1 q (fun e=>hq (.inl e)) (fun e=>hq (.inr e))) (fun nm g u hq hr=>?_) (fun q ob hq ho=>?_) (fun q ob hq _=>by
       rcases hq with e|e
       ·exact⟨_,(congrArg _ e).trans o2⟩
       ·exact⟨_,(congrArg _ e).trans o3⟩)
    ·refine⟨vn,w2,ρ2,?_,hR.put (some dt) (fun _ e=>by cases e;exact hd) (.osl d 0 vn ed hvn)⟩;have iT:¬1*i.size > 2^24:=by rw[his,hsz];simp
     have h0:¬1*i.size=0:=by rw[his,hsz];simp
     rw[his,hsz] at iT h0;simp only[Instr.buildSlice,Sem.run_bind,run_underlying hu,Result.andThen_ok,sizeOf,typeInfo,run_program,hi,Sem.run_pure,his,hsz,if_neg iT,if_neg h0,hzr,hfill,newRow,run_newObj];rfl
    ·rcases hq with hq|hq
     ·refine⟨_,by rw[hq];exact o2,fun _=>?_⟩;cases nm with
      |ob q=>exact⟨q,rfl⟩
      |mem q j=>
       obtain rfl:q=m:=hq;rw[emm] at hr;cases hr
     ·exact⟨_,by rw[hq];exact o3,fun e=>by cases e⟩
    ·rcases hq with rfl|rfl
     ·rw[show ((s.obj q (.row t1 (gm+1) [])).obj d (.deep τ 0 0 [y])).objs q=some (.row t1 (gm+1) []) from o2] at ho;cases ho;exact⟨.slice none 0 0,[],em,(fun a e=>by cases e),World.ownsRow_nil _ _ _ _,fun i hi=>absurd hi (by simp)⟩
     ·rw[show ((s.obj m (.row t1 (gm+1) [])).obj q (.deep τ 0 0 [y])).objs q=some (.deep τ 0 0 [y]) from o3] at ho;cases ho;refine⟨vn,[um],ed,hvn,⟨by simp[hsz],.inr ⟨w.heap.size,1,#[um],rfl,h.below.size,heap_alloc_new w _,by simp,by unfold maxLen;omega,by simp[hsz],by simp[hsz]⟩⟩,hsz,fun j hj=>?_,fun j hj=>?_⟩
      ·rw[edm,if_neg (by simp at hj;omega)]
      ·have lF:j=0:=by simpa using hj
       subst lF;refine⟨t1,ys,um,csm,C.E.unsl_ok _ _ _ _ hy,by rw[edm,if_pos rfl],rfl,mp,⟨m2.1,?_⟩,fun i hi k hk=>c.rel (m4 i hi k hk)⟩;rcases m2.2 with hn'|⟨gb,cap,cur,rfl,hb,hg,rest⟩
       ·exact .inl hn'
       ·exact .inr ⟨gb,cap,cur,rfl,hb,by rw[hbel.block gb (Array.getElem?_eq_some_iff.1 hg).1];exact hg,rest⟩
   ·cases ho
  ·cases ho
 ·cases ho
end
end Go.Vm
